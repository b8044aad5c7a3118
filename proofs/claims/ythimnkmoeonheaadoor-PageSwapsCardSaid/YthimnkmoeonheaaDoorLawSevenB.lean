/- The walk of PageBinds. -/
import Derived.Test.YthimnkmoeonheaaDoorLawSevenF
import Derived.Lib.MinMax
import Derived.Deep.QuietTactic
namespace Go.Proofs.YthimnkmoeonheaaDoor
open Go.RowKit
set_option linter.unusedSimpArgs false
set_option linter.unusedVariables false
set_option maxRecDepth 100000

attribute [local go_sem high] run_min_ints3
def plainL : List UInt8 := [112, 108, 97, 105, 110]
def D16 (W : List WR) : DS := ⟨List.replicate 16 (full []), W, none⟩
theorem binds_w (p : PG) (a : Nat) (ha : a < 16) (hb : ¬ badKey p.1) : pwriteA (D16 []) [] [] (a : Int) p plainL = (D16 [(a, full (bytes8 1))], [(p.1, besS p a, plainL)], 0) :=
  pwriteA_ok (D16 []) [] [] a p plainL rfl (by omega) (by show (a : Int) < ((List.replicate 16 (full [])).length : Int); rw [List.length_replicate]; omega) hb (by decide) (by simp)
theorem binds_rd (a : Nat) (ha : a < 16) : (D16 [(a, full (bytes8 1))]).read (a : Int) = (full (bytes8 1), 0) := by
  have := read_snoc (List.replicate 16 (full [])) [] a (full (bytes8 1)) a (by rw [List.length_replicate]; omega)
  rw [if_pos rfl] at this
  exact this
theorem binds_r (p : PG) (a : Nat) (ha : a < 16) : preadA (D16 [(a, full (bytes8 1))]) [(p.1, besS p a, plainL)] [] (a : Int) p = (plainL, 0) := by
  rw [preadA_h _ _ _ _ _ 1 (binds_rd a ha) (by decide) (by decide), openA_page _ _ p p a a plainL 1 rfl (by decide) (by simp), if_pos ⟨rfl, rfl⟩]
def D16' (a b : Nat) : DS := ⟨(List.replicate 16 (full [])).set b (full (full (bytes8 1))), [(a, full (bytes8 1))].filter (fun w => !decide (w.1 = b)), none⟩
theorem b16 : (full (bytes8 1)).length = 16 := full_len _ (by rw [bytes8_len]; omega)
theorem binds_o (a b : Nat) (hb : b < 16) : (D16 [(a, full (bytes8 1))]).over (b : Int) (full (bytes8 1)) = (D16' a b, 0) :=
  over_ok (D16 [(a, full (bytes8 1))]) b _ (by show b < (List.replicate 16 (full [])).length; rw [List.length_replicate]; exact hb) (by rw [b16]; omega)
theorem binds_r' (p q : PG) (a b : Nat) (hb : b < 16) : preadA (D16' a b) [(p.1, besS p a, plainL)] [] (b : Int) q = if q = p ∧ (b : Int) = a then (plainL, 0) else ([], 51) := by
  have hr : (D16' a b).read (b : Int) = (full (bytes8 1), 0) := by
    have := read_over (List.replicate 16 (full [])) [(a, full (bytes8 1))] b (full (bytes8 1)) b (by rw [List.length_replicate]; exact hb) b16
    rw [if_pos rfl] at this
    exact this
  rw [preadA_h _ _ _ _ _ 1 hr (by decide) (by decide), openA_page _ _ q p b a plainL 1 rfl (by decide) (by simp)]
theorem page_eql (p q : PG) (w : World) : (binOp .eql 25 (.agg (pgCells p).toArray) (.agg (pgCells q).toArray)).run Tryd.prog w = .ok (.bool (decide (p = q))) w := by
  obtain ⟨⟨⟨a0, x0⟩, ⟨a1, x1⟩, ⟨a2, x2⟩⟩, ⟨a3, x3⟩, ⟨a4, x4⟩⟩ := p
  obtain ⟨⟨⟨b0, y0⟩, ⟨b1, y1⟩, ⟨b2, y2⟩⟩, ⟨b3, y3⟩, ⟨b4, y4⟩⟩ := q
  have e : ((((⟨a0, x0⟩, ⟨a1, x1⟩, ⟨a2, x2⟩), ⟨a3, x3⟩, ⟨a4, x4⟩) : PG) = (((⟨b0, y0⟩, ⟨b1, y1⟩, ⟨b2, y2⟩), ⟨b3, y3⟩, ⟨b4, y4⟩) : PG)) ↔ a0 = b0 ∧ a1 = b1 ∧ a2 = b2 ∧ a3 = b3 ∧ a4 = b4 := by
    simp only [Prod.mk.injEq, Subtype.mk.injEq, and_assoc]
  rw [show decide ((((⟨a0, x0⟩, ⟨a1, x1⟩, ⟨a2, x2⟩), ⟨a3, x3⟩, ⟨a4, x4⟩) : PG) = (((⟨b0, y0⟩, ⟨b1, y1⟩, ⟨b2, y2⟩), ⟨b3, y3⟩, ⟨b4, y4⟩) : PG)) = decide (a0 = b0 ∧ a1 = b1 ∧ a2 = b2 ∧ a3 = b3 ∧ a4 = b4) from decide_eq_decide.2 e]
  unfold pgCells
  simp only
  go_simp
  by_cases h0 : a0 = b0 <;> by_cases h1 : a1 = b1 <;> by_cases h2 : a2 = b2 <;> by_cases h3 : a3 = b3 <;> by_cases h4 : a4 = b4 <;> simp [h0, h1, h2, h3, h4]

set_option maxHeartbeats 4000000 in
theorem pageBinds_any (p q : PG) (n0 n1 : Int) (w : World) (u0 : (Lit.int .u8 n0).wf = true) (u1 : (Lit.int .u8 n1).wf = true) :
    Calls Tryd.prog 3 #[.agg (pgCells p).toArray, .agg (pgCells q).toArray, .agg #[.int .u8 n0, .int .u8 n1]] w fun e w' => e = .returned (.bool true) ∧ Keeps No w w' := by
  have hkA : Keeps No w (w.alloc (.cells (pgCells p).toArray 25)) := (Keeps.refl No w).alloc _
  have hbA := heap_alloc_new w (.cells (pgCells p).toArray 25)
  have hkB : Keeps No (w.alloc (.cells (pgCells p).toArray 25)) ((w.alloc (.cells (pgCells p).toArray 25)).alloc (.cells (pgCells q).toArray 25)) := (Keeps.refl No _).alloc _
  have hbB := heap_alloc_new (w.alloc (.cells (pgCells p).toArray 25)) (.cells (pgCells q).toArray 25)
  have hkC : Keeps No ((w.alloc (.cells (pgCells p).toArray 25)).alloc (.cells (pgCells q).toArray 25)) (((w.alloc (.cells (pgCells p).toArray 25)).alloc (.cells (pgCells q).toArray 25)).alloc (.cells #[.int .u8 n0, .int .u8 n1] 26)) := (Keeps.refl No _).alloc _
  have hbC := heap_alloc_new ((w.alloc (.cells (pgCells p).toArray 25)).alloc (.cells (pgCells q).toArray 25)) (.cells #[.int .u8 n0, .int .u8 n1] 26)
  have hP0 := hkC.blk (hkB.blk hbA (not_No _)) (not_No _)
  have hQ0 := hkC.blk hbB (not_No _)
  rw [show (w.alloc (.cells (pgCells p).toArray 25)).heap.size = w.heap.size + 1 from by simp] at hQ0
  rw [show ((w.alloc (.cells (pgCells p).toArray 25)).alloc (.cells (pgCells q).toArray 25)).heap.size = w.heap.size + 2 from by simp] at hbC
  have hk0 := (hkA.transNo hkB).transNo hkC
  clear hkA hbA hkB hbB hkC
  have hpe := fun wx => page_eql p q wx
  unfold pgCells at hP0 hQ0 hbC hk0 hpe ⊢
  go_enter Tryd.func3, Tryd.ntmps3
  go_wp2_with fail
  generalize hW : (((w.alloc (.cells #[.int .i64 p.1.1.1, .int .i64 p.1.2.1.1, .int .i64 p.1.2.2.1, .int .i64 p.2.1.1, .int .i64 p.2.2.1] 25)).alloc (.cells #[.int .i64 q.1.1.1, .int .i64 q.1.2.1.1, .int .i64 q.1.2.2.1, .int .i64 q.2.1.1, .int .i64 q.2.2.1] 25)).alloc (.cells #[.int .u8 n0, .int .u8 n1] 26)) = w0 at hP0 hQ0 hbC hk0 ⊢
  clear hW
  refine (first07_any _).mono ?_
  rintro e w1 ⟨rfl, hk1⟩
  have hP1 := hk1.blk hP0 (not_No _)
  have hQ1 := hk1.blk hQ0 (not_No _)
  have hC1 := hk1.blk hbC (not_No _)
  have hk01 := hk0.transNo hk1
  have hz1 := (Array.getElem?_eq_some_iff.1 hC1).1
  clear hP0 hQ0 hbC hk0 hk1
  obtain ⟨c0, c1, c2, c3, c4⟩ := cells5 hP1
  by_cases hb : badKey p.1
  · have h0 : decide (min p.1.1.1 (min p.1.2.1.1 p.1.2.2.1) < 0) = true := decide_eq_true (by unfold badKey at hb; omega)
    have Hb := Lib.hid hb
    clear hb
    go_wp2_with fail
    go_ret
    exact ⟨rfl, hk01⟩
  have h0 : decide (min p.1.1.1 (min p.1.2.1.1 p.1.2.2.1) < 0) = false := by unfold badKey at hb; simp; omega
  have HB := Lib.hid hb
  clear hb
  go_wp2_with fail
  clear c0 c1 c2 c3 c4
  refine (d_new 16 w1 (by omega) (by omega)).mono ?_
  rintro e w2 ⟨bd, Fd, rfl, hd2, hF, hk2⟩
  go_wp2_with fail
  refine (f_new w2).mono ?_
  rintro e w3 ⟨bv, Fv, rfl, hv3, hF3, hk3⟩
  obtain ⟨F, hV, hFw⟩ := pvnew 16 w1 bd bv Fd Fv _ [] [] w2 w3 hd2 hF hv3 hF3 hk2 hk3
  have hD0 : (⟨List.replicate 16 (full []), [], none⟩ : DS) = D16 [] := rfl
  rw [hD0] at hV
  have hk13 := hk2.transNo hk3
  have hk03 := hk01.transNo hk13
  have hP3 := hk13.blk hP1 (not_No _)
  have hQ3 := hk13.blk hQ1 (not_No _)
  have hC3 := hk13.blk hC1 (not_No _)
  have hz13 := hk13.size
  clear hd2 hv3 hF hF3 hk2 hk3 hD0 hk01 hP1 hQ1 hC1 hk13
  have g0 := cell_of_row w3 (w.heap.size + 2) 0 _ _ (0, 0) hC3
  have g1 := cell_of_row w3 (w.heap.size + 2) 1 _ _ (0, 0) hC3
  obtain ⟨n0, rfl, _⟩ := wf_u8_nat u0
  obtain ⟨n1, rfl, _⟩ := wf_u8_nat u1
  go_wp2_with fail
  go_quiet (fail)
  obtain ⟨a, ha⟩ : ∃ a, a = n0 % 16 := ⟨_, rfl⟩
  obtain ⟨b, hb⟩ : ∃ b, b = n1 % 16 := ⟨_, rfl⟩
  have ea : ((n0 : Int) % 16) = (a : Int) := by omega
  have eb : ((n1 : Int) % 16) = (b : Int) := by omega
  rw [ea, eb]
  have ha16 : a < 16 := by omega
  have hb16 : b < 16 := by omega
  have hk34 : Keeps No w3 (w3.drewN nq) := (Keeps.refl No w3).drewN _
  generalize w3.drewN nq = w4 at hk34 ⊢
  have hV4 := hV.kept hk34
  have hP4 := hk34.blk hP3 (not_No _)
  have hQ4 := hk34.blk hQ3 (not_No _)
  have hk04 := hk03.transNo hk34
  have hz34 := hk34.size
  have fw := binds_w p a ha16 HB.out
  have fr1 := binds_r p a ha16
  have frd := binds_rd a ha16
  have fo := binds_o a b hb16
  have fr3 := binds_r' p q a b hb16
  have hh16 := b16
  generalize D16' a b = E8 at fo fr3
  have hok : (D16 [(a, full (bytes8 1))]).W.length ≤ 1099511627776 := by show 1 ≤ _; omega
  generalize D16 [(a, full (bytes8 1))] = D1 at fw fr1 frd fo hok
  have hA1 : [(p.1, besS p a, plainL)].length ≤ 1099511627776 := by show 1 ≤ _; omega
  generalize [(p.1, besS p a, plainL)] = A1 at fw fr1 fr3 hA1
  have w16 : ∀ x : Fin 16, (Lit.int .i64 (x.1 : Int)).wf = true := by decide
  have wa : (Lit.int .i64 (a : Int)).wf = true := w16 ⟨a, ha16⟩
  have wb : (Lit.int .i64 (b : Int)).wf = true := w16 ⟨b, hb16⟩
  clear w16
  clear ea eb ha hb g0 g1 hV hP3 hQ3 hC3 hk34 hk03
  obtain ⟨c0, c1, c2, c3, c4⟩ := cells5 hP4
  have kc := convB
  have hlA := Sl.litK w4 #[.int .u8 112, .int .u8 108, .int .u8 97, .int .u8 105, .int .u8 110] 5 (5, 6) plainL rfl 5 rfl (by decide)
  have hkB : Keeps No w4 (w4.alloc (.cells #[.int .u8 112, .int .u8 108, .int .u8 97, .int .u8 105, .int .u8 110] 5 (5, 6))) := (Keeps.refl No _).alloc _
  have hcall := pwrite_any bd bv F (D16 []) [] [] a p _ _ _ plainL _ (hV4.kept hkB) wa (by show 0 ≤ _; omega) (by show 0 ≤ _; omega) hlA (by omega)
  rw [fw] at hcall
  unfold PWPost pgCells at hcall
  go_wp2_with fail
  refine hcall.mono ?_
  rintro e w5 ⟨rfl, F5, hV5, hs5⟩
  have hk05 : Keeps No w w5 := (hk04.transNo hkB).trans hs5.keeps (fun i hi h => by have := hFw i h; have := hz13; have := hk04.size; omega)
  have hF5 : ∀ i, F5 i → w1.heap.size ≤ i := fun i hi => (hs5.fresh i hi).elim (hFw i) (fun h => Nat.le_trans (Nat.le_trans hz13 hz34) (Nat.le_trans hkB.size h))
  have hP5 := hs5.keeps.blk (hkB.blk hP4 (not_No _)) (fun h => by have := hFw _ h; omega)
  have hQ5 := hs5.keeps.blk (hkB.blk hQ4 (not_No _)) (fun h => by have := hFw _ h; omega)
  have hz15 := (Array.getElem?_eq_some_iff.1 hP5).1
  clear hcall hs5 hlA hkB fw hV4 hP4 hQ4 hFw c0 c1 c2 c3 c4
  obtain ⟨c0, c1, c2, c3, c4⟩ := cells5 hP5
  have hcall := pread_any bd bv F5 D1 A1 [] a p w5 hV5 wa hA1
  rw [fr1] at hcall
  unfold pgCells at hcall
  go_wp2_with fail
  refine hcall.mono ?_
  rintro e w6 ⟨v6, rfl, hk6, hown6⟩
  obtain ⟨a6, c6, rfl, hs6, _⟩ := Sl.ofOwn hown6
  have hs6l : 0 < plainL.length → w5.heap.size ≤ (a6.getD default).block ∧ (a6.getD default).block < w6.heap.size := fun h0 => hown6.lt _ (by rw [hs6.isSome h0]; rfl)
  have hP6 := hk6.blk hP5 (not_No _)
  have hQ6 := hk6.blk hQ5 (not_No _)
  have hV6 := hV5.kept hk6
  have hk06 := hk05.transNo hk6
  have hz56 := hk6.size
  have hF5lt := hV5.lt
  clear hcall fr1 hP5 hQ5 hV5 hk05 hk6 hown6 c0 c1 c2 c3 c4
  obtain ⟨Fd6, hd6, hsub6, -⟩ := hV6.dev
  have hcall := d_read bd Fd6 D1 a w6 hd6
  rw [frd] at hcall
  go_wp2_with fail
  refine hcall.mono ?_
  rintro e w7 ⟨v7, rfl, hown7, hk7⟩
  rw [hh16] at hown7
  clear hcall
  obtain ⟨a7, c7, rfl, hs7, _⟩ := Sl.ofOwn hown7
  have hV7 := hV6.kept hk7
  obtain ⟨Fd7, hd7, hsub7, back7⟩ := hV7.dev
  have hcall := d_over bd Fd7 D1 b a7 16 c7 _ w7 hd7 hs7 (by omega) (fun h0 hf => by
    have h1 := hF5lt _ (hsub7 _ hf)
    have h2 := (hown7.lt _ (by rw [hs7.isSome h0]; rfl)).1
    omega)
  rw [fo] at hcall
  go_wp2_with fail
  refine hcall.mono ?_
  rintro e w8 ⟨rfl, hd8, hk8⟩
  clear hcall
  obtain ⟨F8, hV8, hS8⟩ := back7 _ _ _ hd8 ⟨hk8, fun i hi => .inl hi⟩
  have hP8 := hS8.keeps.blk (hk7.blk hP6 (not_No _)) (fun h => by have := hF5 _ h; omega)
  have hQ8 := hS8.keeps.blk (hk7.blk hQ6 (not_No _)) (fun h => by have := hF5 _ h; omega)
  have hz01 := hk04.size
  have hk08 : Keeps No w w8 := (hk06.transNo hk7).trans hS8.keeps (fun i hi h => by have := hF5 i h; omega)
  have hs8 := (hs6.kept hk7).keep hS8.keeps (fun h0 h => by have h1 := hF5lt _ h; have := (hs6l (by decide)).1; omega)
  obtain ⟨c0, c1, c2, c3, c4⟩ := cells5 hP8
  obtain ⟨d0, d1, d2, d3, d4⟩ := cells5 hQ8
  have hcall := pread_any bd bv F8 E8 A1 [] b q w8 hV8 wb hA1
  clear hs7 hown7 hd7 hsub7 hd8 hk8 back7 hS8 hd6 hsub6 hV6 hV7 hk7
  by_cases hqp : q = p ∧ (b : Int) = a
  · rw [fr3, if_pos hqp] at hcall
    obtain ⟨rfl, hba⟩ := hqp
    obtain rfl : b = a := by omega
    unfold pgCells at hcall
    go_wp2_with fail
    refine hcall.mono ?_
    rintro e w9 ⟨v9, rfl, hk9, hown9⟩
    obtain ⟨a9, c9, rfl, hs9, _⟩ := Sl.ofOwn hown9
    have hst6 := strB (hs8.kept hk9)
    have hst9 := strB hs9
    have hP9 := hk9.blk hP8 (not_No _)
    have hQ9 := hk9.blk hQ8 (not_No _)
    obtain ⟨c0, c1, c2, c3, c4⟩ := cells5 hP9
    obtain ⟨d0, d1, d2, d3, d4⟩ := cells5 hQ9
    have heq : (plainL == (⟨#[112, 108, 97, 105, 110]⟩ : ByteArray).toList) = true := by rw [ByteArray.toList_eq, beq_iff_eq]; rfl
    clear hcall
    go_wp2_with fail
    go_ret
    exact ⟨rfl, hk08.transNo hk9⟩
  · rw [fr3, if_neg hqp] at hcall
    have hqd : (p = q → ¬ a = b) := fun h1 h2 => hqp ⟨h1.symm, by omega⟩
    unfold pgCells at hcall
    have Hqp := Lib.hid hqp
    clear hqp
    go_wp2_with fail
    refine hcall.mono ?_
    rintro e w9 ⟨v9, rfl, hk9, hown9⟩
    obtain ⟨a9, c9, rfl, hs9, _⟩ := Sl.ofOwn hown9
    have hst6 := strB (hs8.kept hk9)
    have hP9 := hk9.blk hP8 (not_No _)
    have hQ9 := hk9.blk hQ8 (not_No _)
    obtain ⟨c0, c1, c2, c3, c4⟩ := cells5 hP9
    obtain ⟨d0, d1, d2, d3, d4⟩ := cells5 hQ9
    have heq : (plainL == (⟨#[112, 108, 97, 105, 110]⟩ : ByteArray).toList) = true := by rw [ByteArray.toList_eq, beq_iff_eq]; rfl
    clear hcall
    by_cases hpq : p = q
    · have hab : ((a : Int) == b) = false := by rw [beq_eq_false_iff_ne]; have := hqd hpq; omega
      have hpd : decide (p = q) = true := decide_eq_true hpq
      have Hpq := Lib.hid hpq
      clear hpq hqd
      go_wp2_with fail
      go_ret
      exact ⟨rfl, hk08.transNo hk9⟩
    · have hpd : decide (p = q) = false := decide_eq_false hpq
      have Hpq := Lib.hid hpq
      clear hpq hqd
      go_wp2_with fail
      go_ret
      exact ⟨rfl, hk08.transNo hk9⟩
theorem u8wf (x : UInt8) : (Lit.int .u8 (x.toNat : Int)).wf = true := by
  have h : ∀ x : Fin 256, (Lit.int .u8 (x.1 : Int)).wf = true := by decide
  exact h ⟨x.toNat, x.toNat_lt⟩
theorem pageBinds_walk (p q : PG) (x y : UInt8) (w : World) :
    Calls Tryd.prog 3 #[.agg (pgCells p).toArray, .agg (pgCells q).toArray, .agg #[byteV x, byteV y]] w fun e w' => e = .returned (.bool true) ∧ Keeps No w w' :=
  pageBinds_any p q x.toNat y.toNat w (u8wf x) (u8wf y)
end Go.Proofs.YthimnkmoeonheaaDoor
