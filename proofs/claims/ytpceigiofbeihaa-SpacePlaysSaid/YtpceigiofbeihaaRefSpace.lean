/- The walks of the document's answer for layer 6: New, Is, Take, Mark, Give, each once. -/
import Derived.Test.YtpceigiofbeihaaLawSixF
namespace Go.Proofs.Ytpceigiofbeihaa
set_option linter.unusedSimpArgs false
set_option linter.unusedVariables false
open Go.RowKit

theorem int_info : (Try.prog.info? 3).map (fun i => (i.zero, i.size, i.bytes)) = some (some (.int .i64 0), 1, 8) := by kernel_rfl

/-- The document's map at block b: its row in v. -/
def RM (w : World) (b : Nat) (v : Value) (N R : Nat) (F : List Int) : Prop :=
  w.heap[b]? = some (.cells #[.int .i64 (N : Int), .int .i64 (R : Int), v] 56 (0, 0)) ∧ w.ownsRow 0 3 1 v F.length (F.map intV) ∧ v.ownBlock ≠ some b

theorem RM.keep {w w' : World} {b : Nat} {v : Value} {N R : Nat} {F : List Int} {S : Nat → Prop} (h : RM w b v N R F) (k : Keeps S w w') (hb : ¬ S b) (hv : ∀ i, v.ownBlock = some i → ¬ S i) : RM w' b v N R F :=
  ⟨k.blk h.1 hb, k.own h.2.1 hv, h.2.2⟩
theorem RM.kept {w w' : World} {b : Nat} {v : Value} {N R : Nat} {F : List Int} (h : RM w b v N R F) (k : Keeps No w w') : RM w' b v N R F := h.keep k (not_No _) (fun _ _ => not_No _)
theorem RM.lt {w : World} {b : Nat} {v : Value} {N R : Nat} {F : List Int} (h : RM w b v N R F) : b < w.heap.size := (Array.getElem?_eq_some_iff.1 h.1).1
theorem RM.vlt {w : World} {b : Nat} {v : Value} {N R : Nat} {F : List Int} (h : RM w b v N R F) (k : Nat) (hk : v.ownBlock = some k) : k < w.heap.size := (h.2.1.lt k hk).2

/-- The field is turned to another row. -/
theorem RM.put {w : World} {b : Nat} {v v' : Value} {N R : Nat} {F' : List Int} (h1 : w.heap[b]? = some (.cells #[.int .i64 (N : Int), .int .i64 (R : Int), v] 56 (0, 0)))
    (h2 : w.ownsRow 0 3 1 v' F'.length (F'.map intV)) (h3 : v'.ownBlock ≠ some b) : RM (w.setCell ⟨b, 2, none⟩ v') b v' N R F' := by
  refine ⟨?_, (Keeps.set w b 2 v').own h2 (fun i hi e => h3 (by rw [hi, e])), h3⟩
  rw [heap_setCell_same w b 2 _ _ v' h1]
  rfl

def iota (r : Nat) : Nat → List Int
  | 0 => []
  | n + 1 => if r ≤ n then iota r n ++ [(n : Int)] else []
theorem iota_self (r : Nat) : iota r r = [] := by cases r <;> simp [iota]
theorem iota_succ (r j : Nat) (h : r ≤ j) : iota r (j + 1) = iota r j ++ [(j : Int)] := by simp [iota, h]

set_option maxHeartbeats 1000000 in
theorem refNew_any (n r : Nat) (w : World) (hr : r ≤ n) (hn : n ≤ 4096) :
    Calls Try.prog 22 #[.int .i64 n, .int .i64 r] w fun e w' =>
      ∃ b v, e = .returned (.pointer (some ⟨b, 0, none⟩)) ∧ RM w' b v n r (iota r n) ∧ w.heap.size ≤ b ∧ (∀ k, v.ownBlock = some k → w.heap.size ≤ k) ∧ Keeps No w w' := by
  go_enter Try.func22, Try.ntmps22
  go_wp2_with fail
  go_loopw [6] (fun i wr => ∃ (j : Nat) (v : Value) (F : List Int), r ≤ j ∧ j ≤ n ∧ i = .int .i64 j ∧ F = iota r j ∧ F.length ≤ j ∧ wr.heap[w.heap.size]? = some (.cells #[.int .i64 (n : Int), .int .i64 (r : Int), v] 56 (0, 0)) ∧
      wr.ownsRow (w.heap.size + 1) 3 1 v F.length (F.map intV) ∧ Keeps No w wr)
    (fun i _ => n - (intOf i).toNat)
  case atStart =>
    exact ⟨r, .slice none 0 0, [], Nat.le_refl _, hr, rfl, (iota_self r).symm, Nat.zero_le _, heap_alloc_new w _, World.ownsRow_nil _ _ _ _, (Keeps.refl No w).alloc _⟩
  case round =>
    obtain ⟨j, v, F, hrj, hj, rfl, hF, hFl, hb, hown, hkr⟩ := hrel
    have HF := Lib.hid hF
    clear hF
    have hc2 := cell_of_row wr w.heap.size 2 _ _ (0, 0) hb
    have hz := (Array.getElem?_eq_some_iff.1 hb).1
    by_cases hlt : j < n
    · go_wp2_with (at_builtin; go_loud (refine app_own rfl _ _ 40 rfl (w.heap.size + 1) 3 (.int .i64 0) 8 Try.underlying40 int_info rfl (by decide) _ F.length (F.map intV) rfl (hown.alloc _) _ 1 1 [.int .i64 (j : Int)] rfl (Sl.one _ _ _) ?h1 ?hb ?hB ?_))
      case h1 => first | rfl | (intro u hu; simp at hu; subst hu; rfl)
      case hb => omega
      case hB => simp; omega
      intro v' w1 hown1 hg1
      obtain ⟨a3, c3, rfl, hs3, _⟩ := Sl.ofOwn hown1
      have hk1 : Keeps (fun k => v.ownBlock = some k) wr w1 := ((Keeps.refl _ wr).alloc _).grown hg1 (fun k hk _ => hk)
      have hnb : v.ownBlock ≠ some w.heap.size := fun e => by have := (hown.lt _ e).1; omega
      have hb1 := hk1.blk hb hnb
      have hc2' := cell_of_row w1 w.heap.size 2 _ _ (0, 0) hb1
      have hf2' := frozen_of_row w1 w.heap.size 2 _ _ hb1
      have hnb' : (Value.slice a3 _ c3).ownBlock ≠ some w.heap.size := fun e => by have := (hown1.lt _ e).1; omega
      go_wp2_with fail
      go_roundw
      case rel =>
        refine ⟨j + 1, .slice a3 (F.length + 1) c3, F ++ [(j : Int)], by omega, by omega, by go_num, by rw [iota_succ r j hrj, HF.out], by simp; omega, ?_, ?_, ?_⟩
        · rw [heap_setCell_same w1 w.heap.size 2 _ _ _ hb1]; rfl
        · rw [List.length_append, List.map_append]
          exact (Keeps.set w1 w.heap.size 2 _).own hown1 (fun i hi e => hnb' (by rw [hi, e]))
        · exact (hkr.trans hk1 (fun k hk h => by have := (hown.lt k h).1; omega)).setCell (fun h => absurd h (by simp)) _
      case measure => simp [intOf]; omega
    · obtain rfl : n = j := by omega
      go_wp2_with fail
      go_ret
      refine ⟨w.heap.size, v, rfl, ⟨hb, own_base (by rw [← HF.out]; exact hown), fun e => by have := (hown.lt _ e).1; omega⟩, Nat.le_refl _, fun k hk => by have := (hown.lt k hk).1; omega, hkr⟩

theorem refIs_any (b : Nat) (v : Value) (N R : Nat) (F : List Int) (i : Int) (w : World) (h : RM w b v N R F) (hl : F.length ≤ 4096) :
    Calls Try.prog 28 #[.pointer (some ⟨b, 0, none⟩), .int .i64 i] w fun e w' => e = .returned (.bool (decide (i ∈ F))) ∧ w = w' := by
  obtain ⟨h1, h2, h3⟩ := h
  obtain ⟨a, c, rfl, hs, ha⟩ := Sl.ofOwn h2
  have hc2 := cell_of_row w b 2 _ _ (0, 0) h1
  obtain ⟨z, hz⟩ : ∃ z, decide (i ∈ F) = z := ⟨_, rfl⟩
  rw [hz]
  have Hz := Lib.hid hz
  clear hz
  go_enter Try.func28, Try.ntmps28
  go_wp2_with fail
  go_loopw [6, 12] (fun _ ii wr => ∃ j : Nat, j ≤ F.length ∧ ii = .int .i64 j ∧ i ∉ F.take j ∧ w = wr)
    (fun _ ii _ => F.length - (intOf ii).toNat)
  case atStart => exact ⟨0, Nat.zero_le _, rfl, by simp, rfl⟩
  case round =>
    obtain ⟨j, hj, rfl, hno, rfl⟩ := hrel
    have Hno := Lib.hid hno
    clear hno
    by_cases hlt : j < F.length
    · have hix := hs.ix (P := Try.prog) Try.underlying40 (by kernel_rfl) hlt .i64
      have hc := hs.at_ hlt
      obtain ⟨x, hx⟩ : ∃ x, x = F[j] := ⟨_, rfl⟩
      have hb : (F.map intV).getD j undef = .int .i64 x := by rw [hx]; simp [hlt, intV]
      rw [hb] at hc
      clear hb
      by_cases hxv : x = i
      · have hin : i ∈ F := by rw [← hxv, hx]; exact List.getElem_mem hlt
        have hzt : z = true := by rw [← Hz.out]; exact decide_eq_true hin
        subst hxv
        subst hzt
        clear hx hin
        go_wp2_with fail
        go_ret
        exact ⟨rfl, rfl⟩
      · have hq : (x == i) = false := by rw [beq_eq_false_iff_ne]; exact hxv
        have hst : i ∉ F.take (j + 1) := by
          rw [List.take_succ_eq_append_getElem hlt, ← hx, List.mem_append]
          rintro (h | h)
          · exact Hno.out h
          · simp at h; exact hxv h.symm
        have Hst := Lib.hid hst
        clear hx hxv hst
        go_wp2_with fail
        go_roundw
        case rel => exact ⟨j + 1, by omega, by go_num, Hst.out, by first | rfl | trivial⟩
        case measure => simp [intOf]; omega
    · obtain rfl : F.length = j := by omega
      have hzf : z = false := by
        rw [← Hz.out]
        have := Hno.out
        rw [List.take_length] at this
        exact decide_eq_false this
      subst hzf
      go_wp2_with fail
      go_ret
      exact ⟨rfl, rfl⟩

theorem refTake_nil (b : Nat) (v : Value) (N R : Nat) (w : World) (h : RM w b v N R []) :
    Calls Try.prog 23 #[.pointer (some ⟨b, 0, none⟩)] w fun e w' => e = .returned (.tuple #[.int .i64 0, .bool false]) ∧ w = w' := by
  obtain ⟨h1, h2, h3⟩ := h
  obtain ⟨a, c, rfl, hs, ha⟩ := Sl.ofOwn h2
  have hc2 := cell_of_row w b 2 _ _ (0, 0) h1
  rw [List.length_nil] at *
  go_enter Try.func23, Try.ntmps23
  go_wp2_with fail
  go_ret2
  exact ⟨rfl, rfl⟩

theorem refTake_cons (b : Nat) (v : Value) (N R : Nat) (x : Int) (F : List Int) (w : World) (h : RM w b v N R (x :: F)) (hl : F.length ≤ 4096) :
    Calls Try.prog 23 #[.pointer (some ⟨b, 0, none⟩)] w fun e w' =>
      ∃ v', e = .returned (.tuple #[.int .i64 x, .bool true]) ∧ RM w' b v' N R F ∧ (∀ k, v'.ownBlock = some k → w.heap.size ≤ k) ∧ Keeps (fun k => k = b) w w' := by
  obtain ⟨h1, h2, h3⟩ := h
  have hblt := (Array.getElem?_eq_some_iff.1 h1).1
  rw [List.length_cons] at h2
  obtain ⟨a, c, rfl, hs, ha⟩ := Sl.ofOwn h2
  have hc2 := cell_of_row w b 2 _ _ (0, 0) h1
  have hix := hs.ixz (P := Try.prog) Try.underlying40 (by kernel_rfl) 0 (i := 0) rfl (by omega) .i64
  have hcx := hs.at_ (i := 0) (by omega)
  rw [show ((x :: F).map intV).getD 0 undef = .int .i64 x from rfl] at hcx
  obtain ⟨a2, hrA, hrS, hs2, _⟩ := hs.from_ (P := Try.prog) Try.underlying40 (by kernel_rfl) (k := 1) (by omega) .i64 1 rfl
  have hz0 : ((F.length : Int) + 1 == 0) = false := by rw [beq_eq_false_iff_ne]; omega
  simp only [Nat.add_sub_cancel] at hrA hrS hs2
  go_enter Try.func23, Try.ntmps23
  rw [Addr.add_zero'] at hix hcx
  go_wp2_with (at_builtin; go_loud (refine app_own rfl _ _ 40 rfl w.heap.size 3 (.int .i64 0) 8 Try.underlying40 int_info rfl (by decide) _ 0 [] rfl (owns_lit0 w _ _ (Nat.le_refl _)) _ _ _ _ rfl (hs2.kept ((Keeps.refl _ _).alloc _)) ?h1 ?hb ?hB ?_))
  case h1 => intro u hu; obtain ⟨y, _, rfl⟩ := List.mem_map.1 (List.mem_of_mem_drop hu); rfl
  case hb => omega
  case hB => simp
  intro v' w1 hown1 hg1
  obtain ⟨a3, c3, rfl, hs3, _⟩ := Sl.ofOwn hown1
  have hk1 : Keeps No w w1 := ((Keeps.refl _ w).alloc _).grown hg1 (fun k hk hlt => absurd hlt (by simp [Value.ownBlock] at hk; omega))
  have hb1 := hk1.blk h1 (not_No _)
  have hc2' := cell_of_row w1 b 2 _ _ (0, 0) hb1
  have hf2' := frozen_of_row w1 b 2 _ _ hb1
  have hnb' : (Value.slice a3 _ c3).ownBlock ≠ some b := fun e => by have := (hown1.lt _ e).1; omega
  go_wp2_with fail
  go_ret2
  refine ⟨_, rfl, RM.put hb1 (own_base (by simpa using hown1)) hnb', fun k hk => (hown1.lt k hk).1, hk1.noTrans (Keeps.set w1 b 2 _) (fun _ _ h => h)⟩

theorem refMark_any (b : Nat) (v : Value) (N R : Nat) (F : List Int) (i : Int) (w : World) (h : RM w b v N R F) (hl : F.length ≤ 4096) :
    Calls Try.prog 25 #[.pointer (some ⟨b, 0, none⟩), .int .i64 i] w fun e w' =>
      ∃ v', e = .returned (.bool (decide ((F.filter (fun x => x != i)).length < F.length))) ∧ RM w' b v' N R (F.filter (fun x => x != i)) ∧ (∀ k, v'.ownBlock = some k → w.heap.size ≤ k) ∧ Keeps (fun k => k = b) w w' := by
  have hR := h
  obtain ⟨h1, h2, h3⟩ := h
  have hblt := (Array.getElem?_eq_some_iff.1 h1).1
  obtain ⟨a, c, rfl, hs, ha⟩ := Sl.ofOwn h2
  have hc2 := cell_of_row w b 2 _ _ (0, 0) h1
  go_enter Try.func25, Try.ntmps25
  go_wp2_with fail
  go_loopw [5, 7, 14] (fun o _ ii wr => ∃ (j : Nat) (G : List Int), j ≤ F.length ∧ ii = .int .i64 j ∧ G = (F.take j).filter (fun x => x != i) ∧ G.length ≤ j ∧ wr.ownsRow w.heap.size 3 1 o G.length (G.map intV) ∧ Keeps No w wr)
    (fun _ _ ii _ => F.length - (intOf ii).toNat)
  case atStart => exact ⟨0, [], Nat.zero_le _, rfl, by simp, Nat.zero_le _, World.ownsRow_nil _ _ _ _, Keeps.refl _ _⟩
  case round =>
    obtain ⟨j, G, hj, rfl, hG, hGl, hown, hkr⟩ := hrel
    have HG := Lib.hid hG
    clear hG
    by_cases hlt : j < F.length
    · have hix := hs.ix (P := Try.prog) Try.underlying40 (by kernel_rfl) hlt .i64
      have hc := (hs.kept hkr).at_ hlt
      obtain ⟨x, hx⟩ : ∃ x, x = F[j] := ⟨_, rfl⟩
      have hb : (F.map intV).getD j undef = .int .i64 x := by rw [hx]; simp [hlt, intV]
      rw [hb] at hc
      have hst : (F.take (j + 1)).filter (fun x => x != i) = G ++ (if x = i then [] else [x]) := by
        rw [List.take_succ_eq_append_getElem hlt, ← hx, List.filter_append, HG.out]
        by_cases e : x = i <;> simp [e]
      have Hst := Lib.hid hst
      clear hb hx hst
      by_cases hxv : x = i
      · subst hxv
        go_wp2_with fail
        go_roundw
        case rel => exact ⟨j + 1, G, by omega, by go_num, by rw [Hst.out]; simp, by omega, hown, hkr⟩
        case measure => simp [intOf]; omega
      · have hq : (x != i) = true := by rw [bne_iff_ne]; exact hxv
        go_wp2_with (at_builtin; go_loud (refine app_own rfl _ _ 40 rfl w.heap.size 3 (.int .i64 0) 8 Try.underlying40 int_info rfl (by decide) _ G.length (G.map intV) rfl (hown.alloc _) _ 1 1 [.int .i64 x] rfl (Sl.one _ _ _) ?h1 ?hb ?hB ?_))
        case h1 => first | rfl | (intro u hu; simp at hu; subst hu; rfl)
        case hb => omega
        case hB => have := hkr.size; simp; omega
        intro v' w1 hown1 hg1
        go_wp2_with fail
        go_roundw
        case rel =>
          refine ⟨j + 1, G ++ [x], by omega, by go_num, by rw [Hst.out, if_neg hxv], by simp; omega, by rw [List.length_append, List.map_append]; exact hown1, ?_⟩
          exact (hkr.alloc _).grown hg1 (fun k hk hlt => absurd hlt (by have := (hown.lt k hk).1; omega))
        case measure => simp [intOf]; omega
    · obtain rfl : F.length = j := by omega
      have hG2 : G = F.filter (fun x => x != i) := by rw [HG.out, List.take_length]
      have HG2 := Lib.hid hG2
      clear hG2
      obtain ⟨a3, c3, rfl, hs3, _⟩ := Sl.ofOwn hown
      have hb1 := hkr.blk h1 (not_No _)
      have hc2' := cell_of_row wr b 2 _ _ (0, 0) hb1
      have hf2' := frozen_of_row wr b 2 _ _ hb1
      have hnb' : (Value.slice a3 G.length c3).ownBlock ≠ some b := fun e => by have := (hown.lt _ e).1; omega
      go_wp2_with fail
      go_ret
      rw [← HG2.out]
      refine ⟨_, ret_bool (by simp), RM.put hb1 (own_base hown) hnb', fun k hk => (hown.lt k hk).1, hkr.noTrans (Keeps.set wr b 2 _) (fun _ _ h => h)⟩

/-- i laid ahead of the first that is greater. -/
def insB (i : Int) : List Int → List Int
  | [] => [i]
  | x :: t => if i < x then i :: x :: t else x :: insB i t
theorem insB_length (i : Int) (F : List Int) : (insB i F).length = F.length + 1 := by
  induction F with
  | nil => rfl
  | cons x t ih => simp only [insB]; split <;> simp [ih]
theorem insB_snoc_all (i x : Int) (P : List Int) (h : ∀ y ∈ P, ¬ i < y) : insB i (P ++ [x]) = if i < x then P ++ [i, x] else P ++ [x, i] := by
  induction P with
  | nil => simp [insB]
  | cons y t ih =>
    have hy := h y (by simp)
    have := ih (fun z hz => h z (by simp [hz]))
    simp only [List.cons_append, insB, if_neg hy, this]
    split <;> rfl
theorem insB_snoc_any (i x : Int) (P : List Int) (h : ∃ y ∈ P, i < y) : insB i (P ++ [x]) = insB i P ++ [x] := by
  induction P with
  | nil => obtain ⟨y, hy, _⟩ := h; simp at hy
  | cons y t ih =>
    by_cases hy : i < y
    · simp [insB, hy]
    · have : ∃ z ∈ t, i < z := by
        obtain ⟨z, hz, hz'⟩ := h
        rcases List.mem_cons.1 hz with rfl | hz
        · exact absurd hz' hy
        · exact ⟨z, hz, hz'⟩
      simp [insB, hy, ih this]
theorem insB_all (i : Int) (P : List Int) (h : ∀ y ∈ P, ¬ i < y) : insB i P = P ++ [i] := by
  induction P with
  | nil => rfl
  | cons y t ih => simp [insB, h y (by simp), ih (fun z hz => h z (by simp [hz]))]

theorem refGive_no (b : Nat) (v : Value) (N R : Nat) (F : List Int) (i : Int) (w : World) (h : RM w b v N R F) (hl : F.length ≤ 4096) (hno : i < R ∨ (N : Int) ≤ i ∨ i ∈ F) :
    Calls Try.prog 26 #[.pointer (some ⟨b, 0, none⟩), .int .i64 i] w fun e w' => e = .returned (.bool false) ∧ w = w' := by
  have hR := h
  obtain ⟨h1, h2, h3⟩ := h
  have hc0 := cell_of_row w b 0 _ _ (0, 0) h1
  have hc1 := cell_of_row w b 1 _ _ (0, 0) h1
  have hIs := refIs_any b v N R F i w hR hl
  clear h1 h2 h3
  go_enter Try.func26, Try.ntmps26
  by_cases h7 : i < R
  · clear hno
    go_wp2_with fail
    go_ret
    exact ⟨rfl, rfl⟩
  by_cases h8 : (N : Int) ≤ i
  · clear hno
    go_wp2_with fail
    go_ret
    exact ⟨rfl, rfl⟩
  have h9 : i ∈ F := by rcases hno with h | h | h <;> first | omega | exact h
  rw [decide_eq_true h9] at hIs
  clear hno h9
  go_wp2_with fail
  refine hIs.mono ?_
  rintro e w1 ⟨rfl, rfl⟩
  go_wp2_with fail
  go_ret
  exact ⟨rfl, rfl⟩

set_option maxHeartbeats 1000000 in
theorem refGive_yes (b : Nat) (v : Value) (N R : Nat) (F : List Int) (i : Int) (w : World) (h : RM w b v N R F) (hl : F.length ≤ 4096) (h7 : (R : Int) ≤ i) (h8 : i < N) (h9 : i ∉ F) :
    Calls Try.prog 26 #[.pointer (some ⟨b, 0, none⟩), .int .i64 i] w fun e w' =>
      ∃ v', e = .returned (.bool true) ∧ RM w' b v' N R (insB i F) ∧ (∀ k, v'.ownBlock = some k → w.heap.size ≤ k) ∧ Keeps (fun k => k = b) w w' := by
  have hR := h
  obtain ⟨h1, h2, h3⟩ := h
  have hblt := (Array.getElem?_eq_some_iff.1 h1).1
  obtain ⟨a, c, rfl, hs, ha⟩ := Sl.ofOwn h2
  have hc0 := cell_of_row w b 0 _ _ (0, 0) h1
  have hc1 := cell_of_row w b 1 _ _ (0, 0) h1
  have hc2 := cell_of_row w b 2 _ _ (0, 0) h1
  have hIs := refIs_any b _ N R F i w hR hl
  rw [decide_eq_false h9] at hIs
  clear h9
  go_enter Try.func26, Try.ntmps26
  go_wp2_with fail
  refine hIs.mono ?_
  rintro e w1 ⟨rfl, rfl⟩
  clear hIs
  go_wp2_with fail
  go_loopw [5, 6, 8, 33] (fun o d _ ii wr => ∃ (j : Nat) (G : List Int) (d' : Bool), j ≤ F.length ∧ ii = .int .i64 j ∧ d = .bool d' ∧ (if d' = true then (∃ y ∈ F.take j, i < y) ∧ G = insB i (F.take j) else (∀ y ∈ F.take j, ¬ i < y) ∧ G = F.take j) ∧ G.length ≤ j + d'.toNat ∧ wr.ownsRow w.heap.size 3 1 o G.length (G.map intV) ∧ Keeps No w wr)
    (fun _ _ _ ii _ => F.length - (intOf ii).toNat)
  case atStart => exact ⟨0, [], false, Nat.zero_le _, rfl, rfl, by simp, Nat.zero_le _, World.ownsRow_nil _ _ _ _, Keeps.refl _ _⟩
  case round =>
    obtain ⟨j, G, d', hj, rfl, rfl, hG, hGl, hown, hkr⟩ := hrel
    have HG := Lib.hid hG
    clear hG
    have hdb : d'.toNat ≤ 1 := by cases d' <;> decide
    by_cases hlt : j < F.length
    · have hix := hs.ix (P := Try.prog) Try.underlying40 (by kernel_rfl) hlt .i64
      have hc := (hs.kept hkr).at_ hlt
      obtain ⟨x, hx⟩ : ∃ x, x = F[j] := ⟨_, rfl⟩
      have hb : (F.map intV).getD j undef = .int .i64 x := by rw [hx]; simp [hlt, intV]
      rw [hb] at hc
      have hts : F.take (j + 1) = F.take j ++ [x] := by rw [List.take_succ_eq_append_getElem hlt, ← hx]
      have Hts := Lib.hid hts
      clear hb hx hts
      cases d'
      · obtain ⟨hall, hGe⟩ : (∀ y ∈ F.take j, ¬ i < y) ∧ G = F.take j := HG.out
        have hins := insB_snoc_all i x (F.take j) hall
        rw [← Hts.out, ← hGe] at hins
        have Hins := Lib.hid hins
        have Hall := Lib.hid hall
        have HGe := Lib.hid hGe
        clear hins hall hGe
        by_cases hix' : i < x
        · go_wp2_with (at_builtin; go_loud (refine app_own rfl (.tmp 44) (.tmp 46) 40 rfl w.heap.size 3 (.int .i64 0) 8 Try.underlying40 int_info rfl (by decide) _ G.length (G.map intV) rfl (hown.alloc _) _ 1 1 [.int .i64 i] rfl (Sl.one _ _ _) ?h1 ?hb ?hB ?_))
          case h1 => first | rfl | (intro u hu; simp at hu; subst hu; rfl)
          case hb => omega
          case hB => have := hkr.size; simp; omega
          intro v' w1 hown1 hg1
          go_wp2_with (at_builtin; go_loud (refine app_own rfl (.tmp 48) (.tmp 50) 40 rfl w.heap.size 3 (.int .i64 0) 8 Try.underlying40 int_info rfl (by decide) _ (G.length + 1) (G.map intV ++ [.int .i64 i]) rfl (hown1.alloc _) _ 1 1 [.int .i64 x] rfl (Sl.one _ _ _) ?h1b ?hbb ?hBb ?_))
          case h1b => first | rfl | (intro u hu; simp at hu; subst hu; rfl)
          case hbb => omega
          case hBb => have := hkr.size; have := hg1.size; simp at this ⊢; omega
          intro v2 w2 hown2 hg2
          go_wp2_with fail
          go_roundw
          case rel =>
            have e1 : insB i (F.take (j + 1)) = G ++ [i, x] := by rw [Hins.out, if_pos hix']
            refine ⟨j + 1, G ++ [i, x], true, by omega, by go_num, rfl, ?_, by simp at hGl ⊢; omega, ?_, ?_⟩
            · rw [if_pos rfl]
              exact ⟨⟨x, by rw [Hts.out]; simp, hix'⟩, e1.symm⟩
            · have : (G ++ [i, x]).map intV = G.map intV ++ [.int .i64 i, .int .i64 x] := by simp [intV]
              rw [this, show (G ++ [i, x]).length = G.length + 1 + 1 from by simp]
              exact hown2
            · have hk1 : Keeps No w w1 := (hkr.alloc _).grown hg1 (fun k hk hlt => absurd hlt (by have := (hown.lt k hk).1; omega))
              exact (hk1.alloc _).grown hg2 (fun k hk hlt => absurd hlt (by have := (hown1.lt k hk).1; omega))
          case measure => simp [intOf]; omega
        · go_wp2_with (at_builtin; go_loud (refine app_own rfl _ _ 40 rfl w.heap.size 3 (.int .i64 0) 8 Try.underlying40 int_info rfl (by decide) _ G.length (G.map intV) rfl (hown.alloc _) _ 1 1 [.int .i64 x] rfl (Sl.one _ _ _) ?h1 ?hb ?hB ?_))
          case h1 => first | rfl | (intro u hu; simp at hu; subst hu; rfl)
          case hb => omega
          case hB => have := hkr.size; simp; omega
          intro v' w1 hown1 hg1
          go_wp2_with fail
          go_roundw
          case rel =>
            refine ⟨j + 1, G ++ [x], false, by omega, by go_num, rfl, ?_, by simp at hGl ⊢; omega, by rw [List.length_append, List.map_append]; exact hown1, ?_⟩
            · rw [if_neg (by decide), Hts.out, ← HGe.out]
              refine ⟨fun y hy => ?_, rfl⟩
              rcases List.mem_append.1 hy with h | h
              · rw [HGe.out] at h; exact Int.not_lt.2 (Hall.out y h)
              · simp at h; rw [h]; exact Int.not_lt.2 hix'
            · exact (hkr.alloc _).grown hg1 (fun k hk hlt => absurd hlt (by have := (hown.lt k hk).1; omega))
          case measure => simp [intOf]; omega
      · obtain ⟨hany, hGe⟩ : (∃ y ∈ F.take j, i < y) ∧ G = insB i (F.take j) := HG.out
        have hins := insB_snoc_any i x (F.take j) hany
        rw [← Hts.out, ← hGe] at hins
        have Hins := Lib.hid hins
        have Hany := Lib.hid hany
        clear hins hany hGe
        go_wp2_with (at_builtin; go_loud (refine app_own rfl _ _ 40 rfl w.heap.size 3 (.int .i64 0) 8 Try.underlying40 int_info rfl (by decide) _ G.length (G.map intV) rfl (hown.alloc _) _ 1 1 [.int .i64 x] rfl (Sl.one _ _ _) ?h1 ?hb ?hB ?_))
        case h1 => first | rfl | (intro u hu; simp at hu; subst hu; rfl)
        case hb => omega
        case hB => have := hkr.size; simp; omega
        intro v' w1 hown1 hg1
        go_wp2_with fail
        go_roundw
        case rel =>
          refine ⟨j + 1, G ++ [x], true, by omega, by go_num, rfl, ?_, by simp at hGl ⊢; omega, by rw [List.length_append, List.map_append]; exact hown1, ?_⟩
          · rw [if_pos rfl]
            obtain ⟨y, hy, hiy⟩ := Hany.out
            exact ⟨⟨y, by rw [Hts.out]; simp [hy], hiy⟩, Hins.out.symm⟩
          · exact (hkr.alloc _).grown hg1 (fun k hk hlt => absurd hlt (by have := (hown.lt k hk).1; omega))
        case measure => simp [intOf]; omega
    · obtain rfl : F.length = j := by omega
      cases d'
      · obtain ⟨hall, hGe⟩ : (∀ y ∈ F.take F.length, ¬ i < y) ∧ G = F.take F.length := HG.out
        rw [List.take_length] at hall hGe
        have hins : insB i F = G ++ [i] := by rw [insB_all i F hall, hGe]
        have Hins := Lib.hid hins
        clear hins hall hGe
        have hb1 := hkr.blk h1 (not_No _)
        go_wp2_with (at_builtin; go_loud (refine app_own rfl _ _ 40 rfl w.heap.size 3 (.int .i64 0) 8 Try.underlying40 int_info rfl (by decide) _ G.length (G.map intV) rfl (hown.alloc _) _ 1 1 [.int .i64 i] rfl (Sl.one _ _ _) ?h1 ?hb ?hB ?_))
        case h1 => first | rfl | (intro u hu; simp at hu; subst hu; rfl)
        case hb => omega
        case hB => have := hkr.size; simp; omega
        intro v' w1 hown1 hg1
        obtain ⟨a3, c3, rfl, hs3, _⟩ := Sl.ofOwn hown1
        have hk1 : Keeps No w w1 := (hkr.alloc _).grown hg1 (fun k hk hlt => absurd hlt (by have := (hown.lt k hk).1; omega))
        have hb2 := hk1.blk h1 (not_No _)
        have hc2' := cell_of_row w1 b 2 _ _ (0, 0) hb2
        have hf2' := frozen_of_row w1 b 2 _ _ hb2
        have hnb' : (Value.slice a3 (G.length + 1) c3).ownBlock ≠ some b := fun e => by have := (hown1.lt _ e).1; omega
        go_wp2_with fail
        go_ret
        rw [Hins.out]
        refine ⟨_, rfl, RM.put hb2 (own_base (by rw [List.length_append, List.map_append]; exact hown1)) hnb', fun k hk => (hown1.lt k hk).1, hk1.noTrans (Keeps.set w1 b 2 _) (fun _ _ h => h)⟩
      · obtain ⟨hany, hGe⟩ : (∃ y ∈ F.take F.length, i < y) ∧ G = insB i (F.take F.length) := HG.out
        rw [List.take_length] at hGe
        have HGe := Lib.hid hGe
        clear hany hGe
        obtain ⟨a3, c3, rfl, hs3, _⟩ := Sl.ofOwn hown
        have hb2 := hkr.blk h1 (not_No _)
        have hc2' := cell_of_row wr b 2 _ _ (0, 0) hb2
        have hf2' := frozen_of_row wr b 2 _ _ hb2
        have hnb' : (Value.slice a3 G.length c3).ownBlock ≠ some b := fun e => by have := (hown.lt _ e).1; omega
        go_wp2_with fail
        go_ret
        rw [← HGe.out]
        refine ⟨rfl, _, RM.put hb2 (own_base hown) hnb', fun k hk => (hown.lt k hk).1, hkr.noTrans (Keeps.set wr b 2 _) (fun _ _ h => h)⟩
end Go.Proofs.Ytpceigiofbeihaa
