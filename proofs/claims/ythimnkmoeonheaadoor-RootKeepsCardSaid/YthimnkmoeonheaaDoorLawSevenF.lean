/- The walk of strongroomlaw07.first. -/
import Derived.Test.YthimnkmoeonheaaDoorPlainPageB
import Derived.Test.YthimnkmoeonheaaDoorRefPageW
import Derived.Test.YthimnkmoeonheaaDoorConv
namespace Go.Proofs.YthimnkmoeonheaaDoor
open Go.RowKit
set_option linter.unusedSimpArgs false
set_option linter.unusedVariables false
set_option maxRecDepth 100000

def pgOf (t i v : {n : Int // (Lit.int .i64 n).wf = true}) : PG := ((t, ⟨0, by decide⟩, ⟨0, by decide⟩), i, v)
def p1 : PG := pgOf ⟨1, by decide⟩ ⟨2, by decide⟩ ⟨1, by decide⟩
def q1 : PG := pgOf ⟨1, by decide⟩ ⟨2, by decide⟩ ⟨2, by decide⟩
def D8 (W : List WR) : DS := ⟨List.replicate 8 (full []), W, none⟩
theorem first_w : pwriteA (D8 []) [] [] 3 p1 [120] = (D8 [(3, full (bytes8 1))], [(p1.1, besS p1 3, [120])], 0) :=
  pwriteA_ok (D8 []) [] [] 3 p1 [120] rfl (by decide) (by decide) (by decide) (by decide) (by simp)
theorem first_rd : (D8 [(3, full (bytes8 1))]).read 3 = (full (bytes8 1), 0) := read_snoc (List.replicate 8 (full [])) [] 3 _ 3 (by decide)
theorem first_r (q : PG) : preadA (D8 [(3, full (bytes8 1))]) [(p1.1, besS p1 3, [120])] [] 3 q = if q = p1 ∧ (3 : Int) = 3 then ([120], 0) else ([], 51) := by
  rw [preadA_h _ _ _ _ _ 1 first_rd (by decide) (by decide), openA_page _ _ q p1 3 3 [120] 1 rfl (by decide) (by simp)]
def D8' : DS := ⟨(List.replicate 8 (full [])).set 4 (full (full (bytes8 1))), [(3, full (bytes8 1))].filter (fun w => !decide (w.1 = 4)), none⟩
theorem first_o : (D8 [(3, full (bytes8 1))]).over 4 (full (bytes8 1)) = (D8', 0) := over_ok (D8 [(3, full (bytes8 1))]) 4 _ (by decide) (by rw [full_len _ (by rw [bytes8_len]; omega)]; omega)
theorem first_rd' : D8'.read 4 = (full (bytes8 1), 0) := by
  have := read_over (List.replicate 8 (full [])) [(3, full (bytes8 1))] 4 (full (bytes8 1)) 4 (by decide) (full_len _ (by rw [bytes8_len]; omega))
  rw [if_pos rfl] at this
  exact this
theorem first_r' : preadA D8' [(p1.1, besS p1 3, [120])] [] 4 p1 = ([], 51) := by
  rw [preadA_h _ _ _ _ _ 1 first_rd' (by decide) (by decide), openA_page _ _ p1 p1 4 3 [120] 1 rfl (by decide) (by simp), if_neg (by simp)]

theorem cells5 {w : World} {g : Nat} {a b c d e : Value} {t : TypeId} (h : w.heap[g]? = some (.cells #[a, b, c, d, e] t (0, 0))) :
    w.cell? ⟨g, 0, none⟩ = some a ∧ w.cell? ⟨g, 1, none⟩ = some b ∧ w.cell? ⟨g, 2, none⟩ = some c ∧ w.cell? ⟨g, 3, none⟩ = some d ∧ w.cell? ⟨g, 4, none⟩ = some e :=
  ⟨cell_of_row w g 0 _ _ (0, 0) h, cell_of_row w g 1 _ _ (0, 0) h, cell_of_row w g 2 _ _ (0, 0) h, cell_of_row w g 3 _ _ (0, 0) h, cell_of_row w g 4 _ _ (0, 0) h⟩

set_option maxHeartbeats 1000000 in
theorem first07_any (w : World) :
    Calls Tryd.prog 12 #[] w fun e w' => e = .returned (.bool true) ∧ Keeps No w w' := by
  have fw := first_w
  have fr1 := first_r p1
  have fr2 := first_r q1
  have frd := first_rd
  have fo := first_o
  have fr3 := first_r'
  rw [if_pos ⟨rfl, rfl⟩] at fr1
  rw [if_neg (by decide)] at fr2
  have hh1 : handleA (full (bytes8 1)) = (1, true) := handle_bytes8 1 (by decide) (by decide)
  have hl16 : (full (bytes8 1)).length = 16 := full_len _ (by rw [bytes8_len]; omega)
  generalize D8' = E8 at fo fr3
  have hD0 : (⟨List.replicate 8 (full []), [], none⟩ : DS) = D8 [] := rfl
  have hok : (D8 [(3, full (bytes8 1))]).W.length ≤ 1099511627776 := by decide
  generalize D8 [(3, full (bytes8 1))] = D1 at fw fr1 fr2 frd fo hok
  have hA1 : [(p1.1, besS p1 3, [(120 : UInt8)])].length ≤ 1099511627776 := by decide
  generalize [(p1.1, besS p1 3, [(120 : UInt8)])] = A1 at fw fr1 fr2 fr3 hA1
  go_enter Tryd.func12, Tryd.ntmps12
  go_wp2_with fail
  refine (d_new 8 w (by omega) (by omega)).mono ?_
  rintro e w1 ⟨bd, Fd, rfl, hd1, hF, hk1⟩
  go_wp2_with fail
  refine (f_new w1).mono ?_
  rintro e w2 ⟨bv, Fv, rfl, hv2, hF2, hk2⟩
  obtain ⟨F, hP, hFw⟩ := pvnew 8 w bd bv Fd Fv _ [] [] w1 w2 hd1 hF hv2 hF2 hk1 hk2
  rw [hD0] at hP
  have hk02 := hk1.transNo hk2
  clear hd1 hv2 hF hF2 hk1 hk2 hD0
  have kc := convB
  have hcl : (pgCells p1).toArray = #[.int .i64 1, .int .i64 0, .int .i64 0, .int .i64 2, .int .i64 1] := rfl
  have hpA := heap_alloc_new w2 (.cells (pgCells p1).toArray 25)
  have hkA : Keeps No w2 (w2.alloc (.cells (pgCells p1).toArray 25)) := (Keeps.refl No w2).alloc _
  have hlA := Sl.litK (w2.alloc (.cells (pgCells p1).toArray 25)) #[.int .u8 120] 5 (1, 2) [120] rfl 1 rfl (by decide)
  rw [show (w2.alloc (.cells (pgCells p1).toArray 25)).heap.size = w2.heap.size + 1 from by simp] at hlA
  have hkB : Keeps No (w2.alloc (.cells (pgCells p1).toArray 25)) ((w2.alloc (.cells (pgCells p1).toArray 25)).alloc (.cells #[.int .u8 120] 5 (1, 2))) := (Keeps.refl No _).alloc _
  have hkA0 := (hkA.transNo hkB)
  have hPB := hP.kept (hkA.transNo hkB)
  have hpB := hkB.blk hpA (not_No _)
  have hk0B := hk02.transNo (hkA.transNo hkB)
  have hg : ¬ F w2.heap.size := fun h => by have := hP.lt _ h; omega
  have hcall := pwrite_any bd bv F (D8 []) [] [] 3 p1 _ _ _ [120] _ hPB (by decide) (by decide) (by decide) hlA (by omega)
  rw [fw] at hcall
  unfold PWPost at hcall
  rw [hcl] at hpB hk0B hcall
  clear hpA hkA hP hlA hkB hPB
  go_wp2_with fail
  refine hcall.mono ?_
  rintro e w3 ⟨rfl, F3, hP3, hs3⟩
  have hk03 : Keeps No w w3 := hk0B.trans hs3.keeps (fun i hi h => absurd (hFw i h) (by omega))
  have hF3 : ∀ i, F3 i → w.heap.size ≤ i := fun i hi => (hs3.fresh i hi).elim (hFw i) (fun h => Nat.le_trans hk0B.size h)
  have hp3 := hs3.keeps.blk hpB hg
  have hP3lt := hP3.lt
  have hg3 : ¬ F3 w2.heap.size := fun h => (hs3.fresh _ h).elim hg (fun h => by have h1 := (Array.getElem?_eq_some_iff.1 hpB).1; omega)
  have hz3 : w2.heap.size < w3.heap.size := (Array.getElem?_eq_some_iff.1 hp3).1
  obtain ⟨u0, u1, u2, u3, u4⟩ := cells5 hp3
  clear hs3 hpB hk0B hcall fw hg hFw
  have hcall := pread_any bd bv F3 D1 A1 [] 3 p1 w3 hP3 (by decide) hA1
  rw [fr1, hcl] at hcall
  go_wp2_with fail
  refine hcall.mono ?_
  rintro e w4 ⟨v4, rfl, hk4, hown4⟩
  obtain ⟨a4, c4, rfl, hs4, _⟩ := Sl.ofOwn hown4
  have hp4 := hk4.blk hp3 (not_No _)
  obtain ⟨u0, u1, u2, u3, u4⟩ := cells5 hp4
  have hz34 := hk4.size
  have hk04 := hk03.transNo hk4
  have hP4 := hP3.kept hk4
  clear hcall fr1 hk03 hk4 hP3
  go_wp2_with fail
  have hcq : (pgCells q1).toArray = #[.int .i64 1, .int .i64 0, .int .i64 0, .int .i64 2, .int .i64 2] := rfl
  have hkq : Keeps No w4 (w4.alloc (.cells (pgCells q1).toArray 25)) := (Keeps.refl No w4).alloc _
  rw [hcq] at hkq
  generalize hw5 : (w4.alloc (.cells #[.int .i64 1, .int .i64 0, .int .i64 0, .int .i64 2, .int .i64 2] 25)) = w5 at hkq ⊢
  clear hw5
  have hcall := pread_any bd bv F3 D1 A1 [] 3 q1 w5 (hP4.kept hkq) (by decide) hA1
  rw [fr2, hcq] at hcall
  refine hcall.mono ?_
  rintro e w6 ⟨v6, rfl, hk6, hown6⟩
  have hk46 := hkq.transNo hk6
  have hk06 := hk04.transNo hk46
  have hP6 := hP4.kept hk46
  have hs6 := hs4.kept hk46
  have hp6 := hk46.blk hp4 (not_No _)
  have hlt4 : w4.heap.size ≤ w6.heap.size := hk46.size
  have hl4 : 0 < 1 → w3.heap.size ≤ (a4.getD default).block ∧ (a4.getD default).block < w4.heap.size := fun h0 => hown4.lt _ (by rw [hs4.isSome h0]; rfl)
  clear hcall fr2 hkq hk6 hown6 hk04 hk46 hP4 hp4 hcq hs4
  obtain ⟨Fd6, hd6, hsub6, back6⟩ := hP6.dev
  have hcall := d_read bd Fd6 D1 3 w6 hd6
  rw [frd] at hcall
  clear frd back6
  go_wp2_with fail
  refine hcall.mono ?_
  rintro e w7 ⟨v7, rfl, hown7, hk7⟩
  rw [hl16] at hown7
  obtain ⟨a7, c7, rfl, hs7, _⟩ := Sl.ofOwn hown7
  have hcall := handle_any a7 16 c7 _ w7 hs7
  rw [hh1] at hcall
  have hP7 := hP6.kept hk7
  have hk07 := hk06.transNo hk7
  have hs7' := hs6.kept hk7
  have hp7 := hk7.blk hp6 (not_No _)
  clear hh1 hP6 hk06 hs6 hp6 hd6 hsub6
  go_wp2_with fail
  refine hcall.mono ?_
  rintro e w8 ⟨rfl, hk8⟩
  have hP8 := hP7.kept hk8
  have hk08 := hk07.transNo hk8
  have hs8 := hs7'.kept hk8
  have hp8 := hk8.blk hp7 (not_No _)
  have hr8 := hs7.kept hk8
  obtain ⟨Fd8, hd8, hsub8, back8⟩ := hP8.dev
  have hcall := d_over bd Fd8 D1 4 a7 16 c7 _ w8 hd8 hr8 (by omega) (fun h0 hf => by
    have h1 := Nat.lt_of_lt_of_le (hP3lt _ (hsub8 _ hf)) (Nat.le_trans hz34 hlt4)
    have h2 := (hown7.lt _ (by rw [hs7.isSome h0]; rfl)).1
    omega)
  rw [fo] at hcall
  go_wp2_with fail
  refine hcall.mono ?_
  rintro e w9 ⟨rfl, hd9, hk9⟩
  obtain ⟨F9, hP9, hS9⟩ := back8 _ _ _ hd9 ⟨hk9, fun i hi => .inl hi⟩
  have hk09 : Keeps No w w9 := hk08.trans hS9.keeps (fun i hi h => absurd (hF3 i h) (by omega))
  have hp9 := hS9.keeps.blk hp8 hg3
  have hs9 := hs8.keep hS9.keeps (fun h0 h => by have h1 := hP3lt _ h; have := hl4 h0; omega)
  obtain ⟨u0, u1, u2, u3, u4⟩ := cells5 hp9
  have hcall := pread_any bd bv F9 E8 A1 [] 4 p1 w9 hP9 (by decide) hA1
  rw [fr3, hcl] at hcall
  go_wp2_with fail
  refine hcall.mono ?_
  rintro e wa ⟨va, rfl, hka, howna⟩
  have hsa := hs9.kept hka
  simp only [List.length_cons, List.length_nil, Nat.zero_add] at hsa
  have hstr := strB hsa
  have heq : (([120] : List UInt8) == (⟨#[120]⟩ : ByteArray).toList) = true := by rw [ByteArray.toList_eq, beq_iff_eq]
  go_wp2_with fail
  go_ret
  exact ⟨rfl, hk09.transNo hka⟩
end Go.Proofs.YthimnkmoeonheaaDoor
