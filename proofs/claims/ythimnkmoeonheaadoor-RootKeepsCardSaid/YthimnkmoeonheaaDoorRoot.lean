/- The walks of layer 8 (root): Put, Get, Version, each once. -/
import Derived.Test.YthimnkmoeonheaaDoorPlainRoot
namespace Go.Proofs.YthimnkmoeonheaaDoor
open Go.RowKit
set_option linter.unusedSimpArgs false
set_option linter.unusedVariables false
set_option maxRecDepth 100000

theorem cells2 {w : World} {g : Nat} {a b : Value} {t : TypeId} (h : w.heap[g]? = some (.cells #[a, b] t (0, 0))) : w.cell? ⟨g, 0, none⟩ = some a ∧ w.cell? ⟨g, 1, none⟩ = some b :=
  ⟨cell_of_row w g 0 _ _ (0, 0) h, cell_of_row w g 1 _ _ (0, 0) h⟩
/-- The pages, and a cell beside them at block bc. -/
def RT (w : World) (bd bv bc : Nat) (F : Nat → Prop) (s : RS) (G : List K3) : Prop :=
  PV w bd bv F s.D s.A G ∧ w.heap[bc]? = some (.cells #[.int .i64 (s.ver : Int), .int .i64 (s.mark : Int)] 55 (0, 0)) ∧ ¬ F bc
def FC (F : Nat → Prop) (b : Nat) : Nat → Prop := fun i => F i ∨ i = b
theorem RT.lt {w : World} {bd bv bc : Nat} {F : Nat → Prop} {s : RS} {G : List K3} (h : RT w bd bv bc F s G) : ∀ i, FC F bc i → i < w.heap.size := by
  intro i hi
  rcases hi with hi | rfl
  · exact h.1.lt i hi
  · exact (Array.getElem?_eq_some_iff.1 h.2.1).1
theorem RT.keep {w w' : World} {bd bv bc : Nat} {F S : Nat → Prop} {s : RS} {G : List K3} (h : RT w bd bv bc F s G) (k : Keeps S w w') (hS : ∀ i, FC F bc i → ¬ S i) : RT w' bd bv bc F s G :=
  ⟨h.1.keep k (fun i hi => hS i (.inl hi)), k.blk h.2.1 (hS bc (.inr rfl)), h.2.2⟩
theorem RT.kept {w w' : World} {bd bv bc : Nat} {F : Nat → Prop} {s : RS} {G : List K3} (h : RT w bd bv bc F s G) (k : Keeps No w w') : RT w' bd bv bc F s G := h.keep k fun _ _ => not_No _
/-- An act on the pages alone. -/
theorem RT.step {w w' : World} {bd bv bc : Nat} {F F' : Nat → Prop} {s : RS} {D : DS} {A : List AE} {G G' : List K3} (h : RT w bd bv bc F s G) (hP : PV w' bd bv F' D A G') (hs : Step F F' w w') : RT w' bd bv bc F' ⟨D, A, s.ver, s.mark⟩ G' ∧ Step (FC F bc) (FC F' bc) w w' :=
  ⟨⟨hP, hs.keeps.blk h.2.1 h.2.2, hs.notIn7 h.2.2 (Array.getElem?_eq_some_iff.1 h.2.1).1⟩, ⟨hs.keeps.mono (fun i _ h => .inl h), fun i hi => hi.elim (fun h => (hs.fresh i h).imp_left .inl) (fun h => .inl (.inr h))⟩⟩

theorem rversion_any (bc : Nat) (ver mark : Int) (w : World) (h : w.heap[bc]? = some (.cells #[.int .i64 ver, .int .i64 mark] 55 (0, 0))) :
    Calls Tryd.prog 28 #[.pointer (some ⟨bc, 0, none⟩)] w fun e w' => e = .returned (.int .i64 ver) ∧ w = w' := by
  obtain ⟨c0, c1⟩ := cells2 h
  go_enter Tryd.func28, Tryd.ntmps28
  go_wp2_with fail
  go_ret
  exact ⟨rfl, rfl⟩
theorem rversion_nil (w : World) : Calls Tryd.prog 28 #[.pointer none] w fun e w' => e = .returned (.int .i64 0) ∧ w = w' := by
  go_enter Tryd.func28, Tryd.ntmps28
  go_wp2_with fail
  go_ret
  exact ⟨rfl, rfl⟩
theorem rget_nil (bd bv : Nat) (w : World) : Calls Tryd.prog 27 #[.pointer (some ⟨bd, 0, none⟩), .pointer (some ⟨bv, 0, none⟩), .pointer none] w fun e w' => e = .returned (.tuple #[.slice none 0 0, .int .i64 1]) ∧ w = w' := by
  go_enter Tryd.func27, Tryd.ntmps27
  go_wp2_with fail
  go_ret2
  exact ⟨rfl, rfl⟩
theorem rput_nilD (bv bc : Option Addr) (a : Option Addr) (n c : Nat) (w : World) : Calls Tryd.prog 25 #[.pointer none, .pointer bv, .pointer bc, .slice a n c] w fun e w' => e = .returned (.int .i64 1) ∧ w = w' := by
  go_enter Tryd.func25, Tryd.ntmps25
  go_wp2_with fail
  go_ret
  exact ⟨rfl, rfl⟩
theorem rput_nilV (bd : Nat) (bc : Option Addr) (a : Option Addr) (n c : Nat) (w : World) : Calls Tryd.prog 25 #[.pointer (some ⟨bd, 0, none⟩), .pointer none, .pointer bc, .slice a n c] w fun e w' => e = .returned (.int .i64 1) ∧ w = w' := by
  go_enter Tryd.func25, Tryd.ntmps25
  go_wp2_with fail
  go_ret
  exact ⟨rfl, rfl⟩

theorem bound_of (n : Nat) (h : n ≤ 1099511627776) : n ≤ 9223372036854775807 := by omega
theorem wf2 (n : Nat) : (Lit.int .i64 ((n % 2 : Nat) : Int)).wf = true := wf_i64_of _ (by omega) (by omega)

set_option maxHeartbeats 2000000 in
theorem rget_any (bd bv bc : Nat) (F : Nat → Prop) (s : RS) (G : List K3) (w : World) (h : RT w bd bv bc F s G) (hA : s.A.length ≤ 1099511627776) (hv : s.ver ≤ 1099511627776) (hm : s.mark ≤ 1099511627776) :
    Calls Tryd.prog 27 #[.pointer (some ⟨bd, 0, none⟩), .pointer (some ⟨bv, 0, none⟩), .pointer (some ⟨bc, 0, none⟩)] w fun e w' =>
      ∃ v, e = .returned (.tuple #[v, .int .i64 (rget s G).2]) ∧ Keeps No w w' ∧ w'.ownsRow w.heap.size 5 1 v (rget s G).1.length ((rget s G).1.map byteV) := by
  obtain ⟨hP, hb, hF⟩ := h
  obtain ⟨c0, c1⟩ := cells2 hb
  obtain ⟨D, A, ver, mark⟩ := s
  simp only at hP hb c0 c1 hA hv hm
  obtain ⟨R, hR⟩ : ∃ R, R = rget ⟨D, A, ver, mark⟩ G := ⟨_, rfl⟩
  rw [← hR]
  unfold rget at hR
  simp only at hR
  have HR := Lib.hid hR
  clear hR
  go_enter Tryd.func27, Tryd.ntmps27
  by_cases h0 : ver = 0
  · have Hf := Lib.hid (show R = ([], 90) from by rw [HR.out, if_pos h0])
    have n0 : ((ver : Int) == 0) = true := by rw [beq_iff_eq]; omega
    clear h0 HR
    go_wp2_with fail
    go_ret2
    exact ⟨_, by rw [Hf.out]; rfl, Keeps.refl _ _, by rw [Hf.out]; exact World.ownsRow_nil _ _ _ _⟩
  obtain ⟨k, hk⟩ : ∃ k, k = ver % 2 := ⟨_, rfl⟩
  have hwk := wf2 ver
  have Hf := Lib.hid (show R = preadA D A G (k : Int) (rtPg mark ver) from by rw [HR.out, if_neg h0, hk])
  rw [← hk] at hwk
  have n0 : ((ver : Int) == 0) = false := by rw [beq_eq_false_iff_ne]; omega
  clear h0 HR
  have hcall := fun wx hx => pread_any bd bv F D A G (k : Int) (rtPg mark ver) wx hx hwk hA
  simp only [← Hf.out, rtPg_cells mark ver (bound_of _ hm) (bound_of _ hv)] at hcall
  have ht : ((ver : Int)).tmod 2 = (k : Int) := by rw [Int.tmod_eq_emod_of_nonneg (by omega)]; omega
  have ht2 : ((ver : Int)) % 2 = (k : Int) := by omega
  clear hk hwk
  go_wp2_with fail
  refine wp_region_held_drew (S := fun wx => Keeps No w wx ∧ wx.cell? ⟨bc, 0, none⟩ = some (.int .i64 (ver : Int)) ∧ wx.cell? ⟨bc, 1, none⟩ = some (.int .i64 (mark : Int))) (by kernel_rfl) (⟨(Keeps.refl _ _).drew, c0, c1⟩) (fun hS => ?_)
  refine tk (i := 0) (oi := ⟨some 25, _, _, _, _, _⟩) (v := ?_) rfl (by kernel_rfl) (fun _ _ _ h => h) (by assumption) (by rfl) (fun w hSw => ?_) ?_; rotate_left; (focus (first | (go_simp; done) | (go_simp; with_reducible rfl))); simp only [Act.put, List.setIfInBounds_toArray, List.set_cons_zero, List.set_cons_succ]
  refine tk (i := 1) (oi := ⟨some 26, _, _, _, _, _⟩) (v := ?_) rfl (by kernel_rfl) (fun _ _ _ h => h) (by assumption) (by rfl) (fun w hSw => ?_) ?_; rotate_left; (focus (first | (go_simp; done) | (go_simp; with_reducible rfl))); simp only [Act.put, List.setIfInBounds_toArray, List.set_cons_zero, List.set_cons_succ]
  refine tk (i := 2) (oi := ⟨some 27, _, _, _, _, _⟩) (v := ?_) rfl (by kernel_rfl) (fun _ _ _ h => h) (by assumption) (by rfl) (fun w hSw => ?_) ?_; rotate_left; (focus (first | (go_simp; done) | (go_simp; with_reducible rfl))); simp only [Act.put, List.setIfInBounds_toArray, List.set_cons_zero, List.set_cons_succ]
  refine tk (i := 3) (oi := ⟨some 28, _, _, _, _, _⟩) (v := ?_) rfl (by kernel_rfl) (fun _ _ _ h => h) (by assumption) (by rfl) (fun w hSw => ?_) ?_; rotate_left; (focus (first | (go_simp; done) | (go_simp; with_reducible rfl))); simp only [Act.put, List.setIfInBounds_toArray, List.set_cons_zero, List.set_cons_succ]
  refine tk (i := 4) (oi := ⟨some 29, _, _, _, _, _⟩) (v := ?_) rfl (by kernel_rfl) (fun _ _ _ h => h) (by assumption) (by rfl) (fun w hSw => ?_) ?_; rotate_left; (focus (first | (go_simp; done) | (go_simp; with_reducible rfl))); simp only [Act.put, List.setIfInBounds_toArray, List.set_cons_zero, List.set_cons_succ]
  refine tk (i := 5) (oi := ⟨some 30, _, _, _, _, _⟩) (v := ?_) rfl (by kernel_rfl) (fun _ _ _ h => h) (by assumption) (by rfl) (fun w hSw => ?_) ?_; rotate_left; (focus (first | (go_simp; done) | (go_simp; with_reducible rfl))); simp only [Act.put, List.setIfInBounds_toArray, List.set_cons_zero, List.set_cons_succ]
  refine tk (i := 6) (oi := ⟨some 31, _, _, _, _, _⟩) (v := ?_) rfl (by kernel_rfl) (fun _ _ _ h => h) (by assumption) (by rfl) (fun w hSw => ?_) ?_; rotate_left; (focus (first | (go_simp; done) | (go_simp; with_reducible rfl))); simp only [Act.put, List.setIfInBounds_toArray, List.set_cons_zero, List.set_cons_succ]
  refine tk (i := 7) (oi := ⟨some 32, _, _, _, _, _⟩) (v := ?_) rfl (by kernel_rfl) (fun _ _ _ h => h) (by assumption) (by rfl) (fun w hSw => ?_) ?_; rotate_left; (focus (first | (go_simp; done) | (go_simp; with_reducible rfl))); simp only [Act.put, List.setIfInBounds_toArray, List.set_cons_zero, List.set_cons_succ]
  refine tk (i := 8) (oi := ⟨some 33, _, _, _, _, _⟩) (v := ?_) rfl (by kernel_rfl) (fun _ _ _ h => h) (by assumption) (by rfl) (fun w hSw => ?_) ?_; rotate_left; (focus (first | (go_simp; done) | (go_simp; with_reducible rfl))); simp only [Act.put, List.setIfInBounds_toArray, List.set_cons_zero, List.set_cons_succ]
  refine tk (i := 9) (oi := ⟨some 34, _, _, _, _, _⟩) (v := ?_) rfl (by kernel_rfl) (fun _ _ _ h => h) (by assumption) (by rfl) (fun w hSw => ?_) ?_; rotate_left; (focus (first | (go_simp; done) | (go_simp; with_reducible rfl))); simp only [Act.put, List.setIfInBounds_toArray, List.set_cons_zero, List.set_cons_succ]
  refine tk (i := 10) (oi := ⟨some 35, _, _, _, _, _⟩) (v := ?_) rfl (by kernel_rfl) (fun _ _ _ h => h) (by assumption) (by rfl) (fun w hSw => ?_) ?_; rotate_left; (focus (first | (go_simp; done) | (go_simp; with_reducible rfl))); simp only [Act.put, List.setIfInBounds_toArray, List.set_cons_zero, List.set_cons_succ]
  refine tk (i := 11) (oi := ⟨some 36, _, _, _, _, _⟩) (v := ?_) rfl (by kernel_rfl) (fun _ _ _ h => h) (by assumption) (by rfl) (fun w hSw => ?_) ?_; rotate_left; (focus (first | (go_simp; done) | (go_simp; with_reducible rfl))); simp only [Act.put, List.setIfInBounds_toArray, List.set_cons_zero, List.set_cons_succ]
  refine tk (i := 12) (oi := ⟨some 37, _, _, _, _, _⟩) (v := ?_) rfl (by kernel_rfl) (fun _ _ _ h => h) (by assumption) (by rfl) (fun w hSw => ?_) ?_; rotate_left; (focus (first | (go_simp; done) | (go_simp; with_reducible rfl))); simp only [Act.put, List.setIfInBounds_toArray, List.set_cons_zero, List.set_cons_succ]
  refine tk (i := 13) (oi := ⟨some 38, _, _, _, _, _⟩) (v := ?_) rfl (by kernel_rfl) (fun _ _ _ h => h) (by assumption) (by rfl) (fun w hSw => ?_) ?_; rotate_left; (focus (first | (go_simp; done) | (go_simp; with_reducible rfl))); simp only [Act.put, List.setIfInBounds_toArray, List.set_cons_zero, List.set_cons_succ]
  refine tk (i := 14) (oi := ⟨some 39, _, _, _, _, _⟩) (v := ?_) rfl (by kernel_rfl) (fun _ _ _ h => h) (by assumption) (by rfl) (fun w hSw => ?_) ?_; rotate_left; (focus (first | (go_simp; done) | (go_simp; with_reducible rfl))); simp only [Act.put, List.setIfInBounds_toArray, List.set_cons_zero, List.set_cons_succ]
  refine tk (i := 15) (oi := ⟨some 40, _, _, _, _, _⟩) (v := ?_) rfl (by kernel_rfl) (fun _ _ _ h => h) (by assumption) (by rfl) (fun w hSw => ?_) ?_; rotate_left; (focus (first | (go_simp; done) | (go_simp; with_reducible rfl))); simp only [Act.put, List.setIfInBounds_toArray, List.set_cons_zero, List.set_cons_succ]
  refine alone (i := 16) (oi := ⟨some 41, _, _, _, _, _⟩) rfl (by kernel_rfl) (by rfl) (fun K hK => ?_); go_simp
  refine (hcall _ (hP.kept hS.1)).mono ?_
  rintro e w3 ⟨v3, rfl, hk3, hown3⟩
  have hk03 := hS.1.transNo hk3
  have hz3 := hS.1.size
  obtain ⟨d0, d1⟩ := cells2 (hk03.blk hb (not_No _))
  go_simp
  refine hK.out (fun wx => Keeps No w wx ∧ wx.cell? ⟨bc, 0, none⟩ = some (.int .i64 (ver : Int)) ∧ wx.cell? ⟨bc, 1, none⟩ = some (.int .i64 (mark : Int))) _ _ (fun _ h => h) (⟨hk03, d0, d1⟩) ?_
  clear hK K hS
  intro hS
  refine tk (i := 17) (oi := ⟨some 42, _, _, _, _, _⟩) (v := ?_) rfl (by kernel_rfl) (fun _ _ _ h => h) (by assumption) (by rfl) (fun w hSw => ?_) ?_; rotate_left; (focus (first | (go_simp; done) | (go_simp; with_reducible rfl))); simp only [Act.put, List.setIfInBounds_toArray, List.set_cons_zero, List.set_cons_succ]
  refine tk (i := 18) (oi := ⟨some 43, _, _, _, _, _⟩) (v := ?_) rfl (by kernel_rfl) (fun _ _ _ h => h) (by assumption) (by rfl) (fun w hSw => ?_) ?_; rotate_left; (focus (first | (go_simp; done) | (go_simp; with_reducible rfl))); simp only [Act.put, List.setIfInBounds_toArray, List.set_cons_zero, List.set_cons_succ]
  refine tk (i := 19) (oi := ⟨some 6, _, _, _, _, _⟩) (v := ?_) rfl (by kernel_rfl) (fun _ _ _ h => h) (by assumption) (by rfl) (fun w hSw => ?_) ?_; rotate_left; (focus (first | (go_simp; done) | (go_simp; with_reducible rfl))); simp only [Act.put, List.setIfInBounds_toArray, List.set_cons_zero, List.set_cons_succ]
  refine tk (i := 20) (oi := ⟨some 7, _, _, _, _, _⟩) (v := ?_) rfl (by kernel_rfl) (fun _ _ _ h => h) (by assumption) (by rfl) (fun w hSw => ?_) ?_; rotate_left; (focus (first | (go_simp; done) | (go_simp; with_reducible rfl))); simp only [Act.put, List.setIfInBounds_toArray, List.set_cons_zero, List.set_cons_succ]
  refine wpAnyH_done (by kernel_rfl) ?_ _
  go_wp2_with fail
  go_ret2
  exact ⟨_, rfl, hS.1, own_le hown3 (by simp)⟩

def RPutPost (bd bv bc : Nat) (F : Nat → Prop) (R : RS × Int) (G : List K3) (w : World) (e : Ending) (w' : World) : Prop :=
  e = .returned (.int .i64 R.2) ∧ ∃ F', RT w' bd bv bc F' R.1 G ∧ Step (FC F bc) (FC F' bc) w w'

theorem pv_beat (bd bv : Nat) (F : Nat → Prop) (D : DS) (A : List AE) (G : List K3) (w : World) (h : PV w bd bv F D A G) :
    Calls Tryd.prog 59 #[.pointer (some ⟨bd, 0, none⟩)] w fun e w' => e = .returned (.int .i64 D.beat.2) ∧ ∃ F', PV w' bd bv F' D.beat.1 A G ∧ Step F F' w w' := by
  obtain ⟨Fd, hd, hsub, back⟩ := h.dev
  refine (dbeat_any bd Fd D w hd).mono ?_
  rintro e w1 ⟨rfl, hd1, hk⟩
  exact ⟨rfl, back _ _ _ hd1 ⟨hk, fun _ h => .inl h⟩⟩
set_option maxHeartbeats 4000000 in
theorem rput_any (bd bv bc : Nat) (F : Nat → Prop) (s : RS) (G : List K3) (a : Option Addr) (n c : Nat) (plain : List UInt8) (w : World) (h : RT w bd bv bc F s G) (hA : s.A.length ≤ 1099511627776) (hW : s.D.W.length ≤ 1099511627776) (hv : s.ver ≤ 1099511627776)
    (hs : Sl w a n c (plain.map byteV)) (hn : n ≤ 140737488351232) :
    Calls Tryd.prog 25 #[.pointer (some ⟨bd, 0, none⟩), .pointer (some ⟨bv, 0, none⟩), .pointer (some ⟨bc, 0, none⟩), .slice a n c] w (RPutPost bd bv bc F (rput s G plain) G w) := by
  have h0 := h
  obtain ⟨hP, hb, hF⟩ := h
  obtain ⟨c0, c1⟩ := cells2 hb
  have hbl := (Array.getElem?_eq_some_iff.1 hb).1
  have hlt := hP.lt
  obtain ⟨R, hR⟩ : ∃ R, R = rput s G plain := ⟨_, rfl⟩
  rw [← hR]
  rw [rput_eq] at hR
  obtain ⟨k, hk⟩ : ∃ k, k = (s.ver + 1) % 2 := ⟨_, rfl⟩
  obtain ⟨N, hN⟩ : ∃ N, N = s.ver + 1 := ⟨_, rfl⟩
  obtain ⟨M, hM⟩ : ∃ M, M = s.A.length + 1 := ⟨_, rfl⟩
  have hwk := wf2 (s.ver + 1)
  have hcw := fun wx hx hy => pwrite_any bd bv F s.D s.A G (((s.ver + 1) % 2 : Nat) : Int) (rtPg (s.A.length + 1) (s.ver + 1)) a n c plain wx hx hwk hA hW hy hn
  change ∀ wx, _ → _ → Calls _ _ _ _ (PWPost bd bv F (rwr s G plain) G wx) at hcw
  rw [← hk] at hcw
  obtain ⟨Q, hQ⟩ : ∃ Q, rwr s G plain = Q := ⟨_, rfl⟩
  rw [hQ] at hcw hR
  simp only [← hN, ← hM] at hcw
  simp only [rtPg_cells M N (by omega) (by omega)] at hcw
  unfold PWPost at hcw
  unfold rput2 at hR
  rw [← hN, ← hM] at hR
  obtain ⟨D, A, ver, mark⟩ := s
  simp only at *
  have hw1 : IntKind.i64.wrap (N : Int) = (N : Int) := by rw [IntKind.wrap_i64]; omega
  have hw2 : IntKind.i64.wrap (M : Int) = (M : Int) := by rw [IntKind.wrap_i64]; omega
  have ht : ((N : Int)).tmod 2 = (k : Int) := by rw [Int.tmod_eq_emod_of_nonneg (by omega)]; omega
  have ht2 : ((N : Int)) % 2 = (k : Int) := by omega
  have hw1b : (ver : Int) + 1 = (N : Int) := by omega
  have hw2b : (A.length : Int) + 1 = (M : Int) := by omega
  have HR := Lib.hid hR
  have HM := Lib.hid hM
  clear hR hQ hk hwk hN hM
  have hkA : Keeps No w (w.alloc (.cells #[.int .i64 0, .int .i64 0] 55)).drew := ((Keeps.refl No w).alloc _).drew
  have hbA : (w.alloc (.cells #[.int .i64 0, .int .i64 0] 55)).drew.heap[w.heap.size]? = some (.cells #[.int .i64 0, .int .i64 0] 55 (0, 0)) := heap_alloc_new w _
  go_enter Tryd.func25, Tryd.ntmps25
  go_wp2_with fail
  refine region_L (fun wx => Keeps No w wx ∧ wx.cell? ⟨bc, 0, none⟩ = some (.int .i64 (ver : Int))) 10 (by kernel_rfl) (⟨(Keeps.refl _ _).drew, c0⟩) (fun hS => ?_)
  refine tkL (i := 0) (oi := ⟨some 23, _, _, _, _, _⟩) (v := ?_) rfl (by kernel_rfl) (fun _ _ _ h => h) (by assumption) (by rfl) (fun w hSw => ?_) ?_; rotate_left; (focus (first | (go_simp; done) | (go_simp; with_reducible rfl))); simp only [Act.put, List.setIfInBounds_toArray, List.set_cons_zero, List.set_cons_succ]
  refine tkL (i := 1) (oi := ⟨some 24, _, _, _, _, _⟩) (v := ?_) rfl (by kernel_rfl) (fun _ _ _ h => h) (by assumption) (by rfl) (fun w hSw => ?_) ?_; rotate_left; (focus (first | (go_simp; done) | (go_simp; with_reducible rfl))); simp only [Act.put, List.setIfInBounds_toArray, List.set_cons_zero, List.set_cons_succ]
  refine tkL (i := 2) (oi := ⟨some 25, _, _, _, _, _⟩) (v := ?_) rfl (by kernel_rfl) (fun _ _ _ h => h) (by assumption) (by rfl) (fun w hSw => ?_) ?_; rotate_left; (focus (first | (go_simp; done) | (go_simp; with_reducible rfl))); simp only [Act.put, List.setIfInBounds_toArray, List.set_cons_zero, List.set_cons_succ]
  refine tkL (i := 3) (oi := ⟨some 26, _, _, _, _, _⟩) (v := ?_) rfl (by kernel_rfl) (fun _ _ _ h => h) (by assumption) (by rfl) (fun w hSw => ?_) ?_; rotate_left; (focus (first | (go_simp; done) | (go_simp; with_reducible rfl))); simp only [Act.put, List.setIfInBounds_toArray, List.set_cons_zero, List.set_cons_succ]
  refine tkL (i := 4) (oi := ⟨some 27, _, _, _, _, _⟩) (v := ?_) rfl (by kernel_rfl) (fun _ _ _ h => h) (by assumption) (by rfl) (fun w hSw => ?_) ?_; rotate_left; (focus (first | (go_simp; done) | (go_simp; with_reducible rfl))); simp only [Act.put, List.setIfInBounds_toArray, List.set_cons_zero, List.set_cons_succ]
  refine tkL (i := 5) (oi := ⟨some 28, _, _, _, _, _⟩) (v := ?_) rfl (by kernel_rfl) (fun _ _ _ h => h) (by assumption) (by rfl) (fun w hSw => ?_) ?_; rotate_left; (focus (first | (go_simp; done) | (go_simp; with_reducible rfl))); simp only [Act.put, List.setIfInBounds_toArray, List.set_cons_zero, List.set_cons_succ]
  refine twoL (i := 6) (j := 9) (oi := ⟨some 29, _, _, _, _, _⟩) (oj := ⟨some 9, _, _, _, _, _⟩) rfl rfl (by kernel_rfl) (by rfl) (by rfl) (fun K hK => ?_) (fun K hK => ?_)
  · go_simp
    refine (pv_sealed bd bv F D A G _ (hP.kept hS.1)).mono ?_
    rintro e1 w4 ⟨rfl, rfl⟩
    go_simp
    refine hK.out (fun wx => Keeps No w wx ∧ wx.cell? ⟨bc, 0, none⟩ = some (.int .i64 (ver : Int))) _ _ (fun _ h => h) (fun _ => hS) ?_
    clear hK K hS
    intro hS
    replace hS := hS rfl
    refine tkL (i := 7) (oi := ⟨some 30, _, _, _, _, _⟩) (v := ?_) rfl (by kernel_rfl) (fun _ _ _ h => h) (by assumption) (by rfl) (fun w hSw => ?_) ?_; rotate_left; (focus (first | (go_simp; done) | (go_simp; with_reducible rfl))); simp only [Act.put, List.setIfInBounds_toArray, List.set_cons_zero, List.set_cons_succ]
    refine tkL (i := 8) (oi := ⟨some 31, _, _, _, _, _⟩) (v := ?_) rfl (by kernel_rfl) (fun _ _ _ h => h) (by assumption) (by rfl) (fun w hSw => ?_) ?_; rotate_left; (focus (first | (go_simp; done) | (go_simp; with_reducible rfl))); simp only [Act.put, List.setIfInBounds_toArray, List.set_cons_zero, List.set_cons_succ]
    refine aloneL (i := 9) (oi := ⟨some 9, _, _, _, _, _⟩) rfl (by kernel_rfl) (by rfl) (fun K hK => ?_); go_simp
    refine hK.out (fun wx => Keeps No w wx ∧ wx.cell? ⟨bc, 0, none⟩ = some (.int .i64 (ver : Int))) _ _ (fun _ h => h) (fun _ => ⟨hkA, (cells2 (hkA.blk hb (not_No _))).1⟩) ?_
    clear hK K hS
    intro hS
    replace hS := hS rfl
    refine aloneL (i := 10) (oi := ⟨none, _, _, _, _, _⟩) rfl (by kernel_rfl) (by rfl) (fun K hK => ?_)
    refine wp_storeRow 55 (.tmp 9) (.tmp 31) rfl w.heap.size #[.int .i64 (N : Int), .int .i64 (M : Int)] (by rfl) (by rfl) 55 _ hbA (by kernel_rfl) rfl (by kernel_rfl) ?_
    intro w5 hb5 hz5 hk5
    refine hK.out (fun wx => Keeps No w wx ∧ wx.cell? ⟨bc, 0, none⟩ = some (.int .i64 (ver : Int))) _ _ (fun _ h => h) (fun e => absurd (show true = false from e) (by decide)) ?_
    clear hK K hS
    intro hS
    refine doneL (by kernel_rfl) ?_ _
    have hkw5 : Keeps No w w5 := hkA.trans hk5 (fun i hi h => by omega)
    have h5 := h0.kept hkw5
    obtain ⟨z0, z1⟩ := cells2 hb5
    have hzl : w.heap.size < w5.heap.size := (Array.getElem?_eq_some_iff.1 hb5).1
    have hcall := hcw w5 h5.1 (hs.kept hkw5)
    clear hcw
    go_wp2_with fail
    refine hcall.mono ?_
    rintro e w6 ⟨rfl, F6, hP6, hs6⟩
    clear hcall
    have hb6 := hs6.keeps.blk hb5 (fun h => by have := hlt _ h; omega)
    obtain ⟨h6, hS6⟩ := h5.step hP6 hs6
    have hS06 := Step.noTrans hkw5 hS6
    clear z0 z1
    obtain ⟨z0, z1⟩ := cells2 hb6
    by_cases he : Q.2.2 = 0
    case neg =>
      have q1 : (Q.2.2 == 0) = false := by rw [beq_eq_false_iff_ne]; exact he
      have q2 : (Q.2.2 != 0) = true := by rw [bne, q1]; rfl
      have Hf := Lib.hid (show R = (⟨Q.1, Q.2.1, ver, mark⟩, Q.2.2) from by rw [HR.out, if_neg he])
      clear he
      go_wp2_with fail
      go_ret
      exact ⟨by rw [Hf.out]; rfl, F6, by rw [Hf.out]; exact h6, hS06⟩
    have q1 : (Q.2.2 == 0) = true := by rw [beq_iff_eq]; exact he
    have q2 : (Q.2.2 != 0) = false := by rw [bne, q1]; rfl
    have HR2 := Lib.hid (HR.out.trans (if_pos he))
    clear he HR
    have hcall := pv_sync bd bv F6 Q.1 Q.2.1 G w6 hP6
    go_wp2_with fail
    refine hcall.mono ?_
    rintro e w7 ⟨rfl, F7, hP7, hs7⟩
    clear hcall
    have hb7 := hs7.keeps.blk hb6 (fun h => (hs6.fresh _ h).elim (fun h => by have := hlt _ h; omega) (fun h => by omega))
    obtain ⟨h7, hS7⟩ := h6.step hP7 hs7
    have hS07 := hS06.trans hS7
    clear z0 z1
    obtain ⟨z0, z1⟩ := cells2 hb7
    by_cases he : Q.1.sync.2 = 0
    case neg =>
      have r1 : (Q.1.sync.2 == 0) = false := by rw [beq_eq_false_iff_ne]; exact he
      have r2 : (Q.1.sync.2 != 0) = true := by rw [bne, r1]; rfl
      have Hf := Lib.hid (HR2.out.trans (if_neg he))
      clear he
      go_wp2_with fail
      go_ret
      exact ⟨by rw [Hf.out]; rfl, F7, by rw [Hf.out]; exact h7, hS07⟩
    have r1 : (Q.1.sync.2 == 0) = true := by rw [beq_iff_eq]; exact he
    have r2 : (Q.1.sync.2 != 0) = false := by rw [bne, r1]; rfl
    have HR3 := Lib.hid (HR2.out.trans (if_pos he))
    clear he HR2
    have hcall := pv_beat bd bv F7 Q.1.sync.1 Q.2.1 G w7 hP7
    go_wp2_with fail
    refine hcall.mono ?_
    rintro e w8 ⟨rfl, F8, hP8, hs8⟩
    clear hcall
    have hb8 := hs8.keeps.blk hb7 (fun h => (hs7.fresh _ h).elim (fun h => (hs6.fresh _ h).elim (fun h => by have := hlt _ h; omega) (fun h => by omega)) (fun h => by have := hs6.keeps.size; omega))
    obtain ⟨h8, hS8⟩ := h7.step hP8 hs8
    have hS08 := hS07.trans hS8
    clear z0 z1
    obtain ⟨z0, z1⟩ := cells2 hb8
    by_cases he : Q.1.sync.1.beat.2 = 0
    case neg =>
      have r3 : (Q.1.sync.1.beat.2 == 0) = false := by rw [beq_eq_false_iff_ne]; exact he
      have r4 : (Q.1.sync.1.beat.2 != 0) = true := by rw [bne, r3]; rfl
      have Hf := Lib.hid (HR3.out.trans (if_neg he))
      clear he
      go_wp2_with fail
      go_ret
      exact ⟨by rw [Hf.out]; rfl, F8, by rw [Hf.out]; exact h8, hS08⟩
    have r3 : (Q.1.sync.1.beat.2 == 0) = true := by rw [beq_iff_eq]; exact he
    have r4 : (Q.1.sync.1.beat.2 != 0) = false := by rw [bne, r3]; rfl
    have Hf := Lib.hid (HR3.out.trans (if_pos he))
    clear he HR3
    obtain ⟨-, hbc8, hF8⟩ := h8
    go_wp2_with (refine wpList_storeRow rfl 55 (.tmp 59) (.tmp 58) rfl bc #[.int .i64 (N : Int), .int .i64 (M : Int)] rfl rfl 55 _ hbc8 (by kernel_rfl) rfl (by kernel_rfl) ?_)
    intro w9 hb9 hz9 hk9
    go_wp2_with fail
    go_ret
    refine ⟨by rw [Hf.out]; rfl, F8, by rw [Hf.out]; exact ⟨hP8.keep hk9 (fun i hi h => hF8 (by rw [← h]; exact hi)), hb9, hF8⟩, ?_⟩
    exact hS08.trans ⟨hk9.mono (fun i _ h => .inr h), fun i hi => .inl hi⟩
  · go_simp
    refine hK.out (fun wx => Keeps No w wx ∧ wx.cell? ⟨bc, 0, none⟩ = some (.int .i64 (ver : Int))) _ _ (fun _ h => h) (fun _ => ⟨hkA, (cells2 (hkA.blk hb (not_No _))).1⟩) ?_
    clear hK K hS
    intro hS
    replace hS := hS rfl
    refine aloneL (i := 6) (oi := ⟨some 29, _, _, _, _, _⟩) rfl (by kernel_rfl) (by rfl) (fun K hK => ?_); go_simp
    refine (pv_sealed bd bv F D A G _ (hP.kept hS.1)).mono ?_
    rintro e1 w4 ⟨rfl, rfl⟩
    go_simp
    refine hK.out (fun wx => Keeps No w wx ∧ wx.cell? ⟨bc, 0, none⟩ = some (.int .i64 (ver : Int))) _ _ (fun _ h => h) (fun _ => hS) ?_
    clear hK K hS
    intro hS
    replace hS := hS rfl
    refine tkL (i := 7) (oi := ⟨some 30, _, _, _, _, _⟩) (v := ?_) rfl (by kernel_rfl) (fun _ _ _ h => h) (by assumption) (by rfl) (fun w hSw => ?_) ?_; rotate_left; (focus (first | (go_simp; done) | (go_simp; with_reducible rfl))); simp only [Act.put, List.setIfInBounds_toArray, List.set_cons_zero, List.set_cons_succ]
    refine tkL (i := 8) (oi := ⟨some 31, _, _, _, _, _⟩) (v := ?_) rfl (by kernel_rfl) (fun _ _ _ h => h) (by assumption) (by rfl) (fun w hSw => ?_) ?_; rotate_left; (focus (first | (go_simp; done) | (go_simp; with_reducible rfl))); simp only [Act.put, List.setIfInBounds_toArray, List.set_cons_zero, List.set_cons_succ]
    refine aloneL (i := 10) (oi := ⟨none, _, _, _, _, _⟩) rfl (by kernel_rfl) (by rfl) (fun K hK => ?_)
    refine wp_storeRow 55 (.tmp 9) (.tmp 31) rfl w.heap.size #[.int .i64 (N : Int), .int .i64 (M : Int)] (by rfl) (by rfl) 55 _ hbA (by kernel_rfl) rfl (by kernel_rfl) ?_
    intro w5 hb5 hz5 hk5
    refine hK.out (fun wx => Keeps No w wx ∧ wx.cell? ⟨bc, 0, none⟩ = some (.int .i64 (ver : Int))) _ _ (fun _ h => h) (fun e => absurd (show true = false from e) (by decide)) ?_
    clear hK K hS
    intro hS
    refine doneL (by kernel_rfl) ?_ _
    have hkw5 : Keeps No w w5 := hkA.trans hk5 (fun i hi h => by omega)
    have h5 := h0.kept hkw5
    obtain ⟨z0, z1⟩ := cells2 hb5
    have hzl : w.heap.size < w5.heap.size := (Array.getElem?_eq_some_iff.1 hb5).1
    have hcall := hcw w5 h5.1 (hs.kept hkw5)
    clear hcw
    go_wp2_with fail
    refine hcall.mono ?_
    rintro e w6 ⟨rfl, F6, hP6, hs6⟩
    clear hcall
    have hb6 := hs6.keeps.blk hb5 (fun h => by have := hlt _ h; omega)
    obtain ⟨h6, hS6⟩ := h5.step hP6 hs6
    have hS06 := Step.noTrans hkw5 hS6
    clear z0 z1
    obtain ⟨z0, z1⟩ := cells2 hb6
    by_cases he : Q.2.2 = 0
    case neg =>
      have q1 : (Q.2.2 == 0) = false := by rw [beq_eq_false_iff_ne]; exact he
      have q2 : (Q.2.2 != 0) = true := by rw [bne, q1]; rfl
      have Hf := Lib.hid (show R = (⟨Q.1, Q.2.1, ver, mark⟩, Q.2.2) from by rw [HR.out, if_neg he])
      clear he
      go_wp2_with fail
      go_ret
      exact ⟨by rw [Hf.out]; rfl, F6, by rw [Hf.out]; exact h6, hS06⟩
    have q1 : (Q.2.2 == 0) = true := by rw [beq_iff_eq]; exact he
    have q2 : (Q.2.2 != 0) = false := by rw [bne, q1]; rfl
    have HR2 := Lib.hid (HR.out.trans (if_pos he))
    clear he HR
    have hcall := pv_sync bd bv F6 Q.1 Q.2.1 G w6 hP6
    go_wp2_with fail
    refine hcall.mono ?_
    rintro e w7 ⟨rfl, F7, hP7, hs7⟩
    clear hcall
    have hb7 := hs7.keeps.blk hb6 (fun h => (hs6.fresh _ h).elim (fun h => by have := hlt _ h; omega) (fun h => by omega))
    obtain ⟨h7, hS7⟩ := h6.step hP7 hs7
    have hS07 := hS06.trans hS7
    clear z0 z1
    obtain ⟨z0, z1⟩ := cells2 hb7
    by_cases he : Q.1.sync.2 = 0
    case neg =>
      have r1 : (Q.1.sync.2 == 0) = false := by rw [beq_eq_false_iff_ne]; exact he
      have r2 : (Q.1.sync.2 != 0) = true := by rw [bne, r1]; rfl
      have Hf := Lib.hid (HR2.out.trans (if_neg he))
      clear he
      go_wp2_with fail
      go_ret
      exact ⟨by rw [Hf.out]; rfl, F7, by rw [Hf.out]; exact h7, hS07⟩
    have r1 : (Q.1.sync.2 == 0) = true := by rw [beq_iff_eq]; exact he
    have r2 : (Q.1.sync.2 != 0) = false := by rw [bne, r1]; rfl
    have HR3 := Lib.hid (HR2.out.trans (if_pos he))
    clear he HR2
    have hcall := pv_beat bd bv F7 Q.1.sync.1 Q.2.1 G w7 hP7
    go_wp2_with fail
    refine hcall.mono ?_
    rintro e w8 ⟨rfl, F8, hP8, hs8⟩
    clear hcall
    have hb8 := hs8.keeps.blk hb7 (fun h => (hs7.fresh _ h).elim (fun h => (hs6.fresh _ h).elim (fun h => by have := hlt _ h; omega) (fun h => by omega)) (fun h => by have := hs6.keeps.size; omega))
    obtain ⟨h8, hS8⟩ := h7.step hP8 hs8
    have hS08 := hS07.trans hS8
    clear z0 z1
    obtain ⟨z0, z1⟩ := cells2 hb8
    by_cases he : Q.1.sync.1.beat.2 = 0
    case neg =>
      have r3 : (Q.1.sync.1.beat.2 == 0) = false := by rw [beq_eq_false_iff_ne]; exact he
      have r4 : (Q.1.sync.1.beat.2 != 0) = true := by rw [bne, r3]; rfl
      have Hf := Lib.hid (HR3.out.trans (if_neg he))
      clear he
      go_wp2_with fail
      go_ret
      exact ⟨by rw [Hf.out]; rfl, F8, by rw [Hf.out]; exact h8, hS08⟩
    have r3 : (Q.1.sync.1.beat.2 == 0) = true := by rw [beq_iff_eq]; exact he
    have r4 : (Q.1.sync.1.beat.2 != 0) = false := by rw [bne, r3]; rfl
    have Hf := Lib.hid (HR3.out.trans (if_pos he))
    clear he HR3
    obtain ⟨-, hbc8, hF8⟩ := h8
    go_wp2_with (refine wpList_storeRow rfl 55 (.tmp 59) (.tmp 58) rfl bc #[.int .i64 (N : Int), .int .i64 (M : Int)] rfl rfl 55 _ hbc8 (by kernel_rfl) rfl (by kernel_rfl) ?_)
    intro w9 hb9 hz9 hk9
    go_wp2_with fail
    go_ret
    refine ⟨by rw [Hf.out]; rfl, F8, by rw [Hf.out]; exact ⟨hP8.keep hk9 (fun i hi h => hF8 (by rw [← h]; exact hi)), hb9, hF8⟩, ?_⟩
    exact hS08.trans ⟨hk9.mono (fun i _ h => .inr h), fun i hi => .inl hi⟩
end Go.Proofs.YthimnkmoeonheaaDoor
