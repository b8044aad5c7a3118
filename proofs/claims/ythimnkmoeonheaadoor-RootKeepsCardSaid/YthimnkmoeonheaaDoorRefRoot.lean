/- The walks of the document's roots: Put, Get, each once. -/
import Derived.Test.YthimnkmoeonheaaDoorRoot
namespace Go.Proofs.YthimnkmoeonheaaDoor
open Go.RowKit
set_option linter.unusedSimpArgs false
set_option linter.unusedVariables false
set_option maxRecDepth 100000

def RRT (w : World) (bd bv bc : Nat) (F : Nat → Prop) (s : RS) (G : List K3) : Prop :=
  PR w bd bv F s.D s.A G ∧ w.heap[bc]? = some (.cells #[.int .i64 (s.ver : Int), .int .i64 (s.mark : Int)] 86 (0, 0)) ∧ ¬ F bc
theorem RRT.lt {w : World} {bd bv bc : Nat} {F : Nat → Prop} {s : RS} {G : List K3} (h : RRT w bd bv bc F s G) : ∀ i, FC F bc i → i < w.heap.size := by
  intro i hi
  rcases hi with hi | rfl
  · exact h.1.lt i hi
  · exact (Array.getElem?_eq_some_iff.1 h.2.1).1
theorem RRT.keep {w w' : World} {bd bv bc : Nat} {F S : Nat → Prop} {s : RS} {G : List K3} (h : RRT w bd bv bc F s G) (k : Keeps S w w') (hS : ∀ i, FC F bc i → ¬ S i) : RRT w' bd bv bc F s G :=
  ⟨h.1.keep k (fun i hi => hS i (.inl hi)), k.blk h.2.1 (hS bc (.inr rfl)), h.2.2⟩
theorem RRT.kept {w w' : World} {bd bv bc : Nat} {F : Nat → Prop} {s : RS} {G : List K3} (h : RRT w bd bv bc F s G) (k : Keeps No w w') : RRT w' bd bv bc F s G := h.keep k fun _ _ => not_No _
theorem RRT.step {w w' : World} {bd bv bc : Nat} {F F' : Nat → Prop} {s : RS} {D : DS} {A : List AE} {G G' : List K3} (h : RRT w bd bv bc F s G) (hP : PR w' bd bv F' D A G') (hs : Step F F' w w') : RRT w' bd bv bc F' ⟨D, A, s.ver, s.mark⟩ G' ∧ Step (FC F bc) (FC F' bc) w w' :=
  ⟨⟨hP, hs.keeps.blk h.2.1 h.2.2, hs.notIn7 h.2.2 (Array.getElem?_eq_some_iff.1 h.2.1).1⟩, ⟨hs.keeps.mono (fun i _ h => .inl h), fun i hi => hi.elim (fun h => (hs.fresh i h).imp_left .inl) (fun h => .inl (.inr h))⟩⟩
theorem pr_beat (bd bv : Nat) (F : Nat → Prop) (D : DS) (A : List AE) (G : List K3) (w : World) (h : PR w bd bv F D A G) :
    Calls Tryd.prog 67 #[.pointer (some ⟨bd, 0, none⟩)] w fun e w' => e = .returned (.int .i64 D.beat.2) ∧ ∃ F', PR w' bd bv F' D.beat.1 A G ∧ Step F F' w w' := by
  obtain ⟨Fd, hd, hsub, back⟩ := h.dev
  refine (r_beat bd Fd D w hd).mono ?_
  rintro e w1 ⟨rfl, hd1, hk⟩
  exact ⟨rfl, back _ _ _ hd1 ⟨hk, fun _ h => .inl h⟩⟩

set_option maxHeartbeats 2000000 in
theorem rrget_any (bd bv bc : Nat) (F : Nat → Prop) (s : RS) (G : List K3) (w : World) (h : RRT w bd bv bc F s G) (hA : s.A.length ≤ 1099511627776) (hG : G.length ≤ 1099511627776) (hv : s.ver ≤ 1099511627776) (hm : s.mark ≤ 1099511627776) :
    Calls Tryd.prog 46 #[.pointer (some ⟨bd, 0, none⟩), .pointer (some ⟨bv, 0, none⟩), .pointer (some ⟨bc, 0, none⟩)] w fun e w' =>
      e = .returned (.tuple #[.string ⟨(rget s G).1.toArray⟩, .int .i64 (rget s G).2]) ∧ Keeps No w w' := by
  obtain ⟨hP, hb, hF⟩ := h
  obtain ⟨c0, c1⟩ := cells2 hb
  obtain ⟨D, A, ver, mark⟩ := s
  simp only at hP hb c0 c1 hA hv hm
  obtain ⟨R, hR⟩ : ∃ R, R = rget ⟨D, A, ver, mark⟩ G := ⟨_, rfl⟩
  rw [← hR]
  unfold rget at hR
  simp only at hR
  have HR := Lib.hid hR
  clear hR
  go_enter Tryd.func46, Tryd.ntmps46
  by_cases h0 : ver = 0
  · have Hf := Lib.hid (show R = ([], 90) from by rw [HR.out, if_pos h0])
    have n0 : ((ver : Int) == 0) = true := by rw [beq_iff_eq]; omega
    clear h0 HR
    go_wp2_with fail
    go_ret2
    exact ⟨by rw [Hf.out]; rfl, Keeps.refl _ _⟩
  obtain ⟨k, hk⟩ : ∃ k, k = ver % 2 := ⟨_, rfl⟩
  have hwk := wf2 ver
  have Hf := Lib.hid (show R = preadA D A G (k : Int) (rtPg mark ver) from by rw [HR.out, if_neg h0, hk])
  rw [← hk] at hwk
  have n0 : ((ver : Int) == 0) = false := by rw [beq_eq_false_iff_ne]; omega
  clear h0 HR
  have hcall := fun wx hx => rpread_any bd bv F D A G (k : Int) (rtPg mark ver) wx hx hwk hG hA
  simp only [← Hf.out, rtPg_cells mark ver (bound_of _ hm) (bound_of _ hv)] at hcall
  have ht : ((ver : Int)).tmod 2 = (k : Int) := by rw [Int.tmod_eq_emod_of_nonneg (by omega)]; omega
  have ht2 : ((ver : Int)) % 2 = (k : Int) := by omega
  clear hk hwk
  go_wp2_with fail
  refine wp_region_held_drew (S := fun wx => Keeps No w wx ∧ wx.cell? ⟨bc, 0, none⟩ = some (.int .i64 (ver : Int)) ∧ wx.cell? ⟨bc, 1, none⟩ = some (.int .i64 (mark : Int))) (by kernel_rfl) (⟨(Keeps.refl _ _).drew, c0, c1⟩) (fun hS => ?_)
  refine tk (i := 0) (oi := ⟨some 13, _, _, _, _, _⟩) (v := ?_) rfl (by kernel_rfl) (fun _ _ _ h => h) (by assumption) (by rfl) (fun w hSw => ?_) ?_; rotate_left; (focus (first | (go_simp; done) | (go_simp; with_reducible rfl))); simp only [Act.put, List.setIfInBounds_toArray, List.set_cons_zero, List.set_cons_succ]
  refine tk (i := 1) (oi := ⟨some 14, _, _, _, _, _⟩) (v := ?_) rfl (by kernel_rfl) (fun _ _ _ h => h) (by assumption) (by rfl) (fun w hSw => ?_) ?_; rotate_left; (focus (first | (go_simp; done) | (go_simp; with_reducible rfl))); simp only [Act.put, List.setIfInBounds_toArray, List.set_cons_zero, List.set_cons_succ]
  refine tk (i := 2) (oi := ⟨some 15, _, _, _, _, _⟩) (v := ?_) rfl (by kernel_rfl) (fun _ _ _ h => h) (by assumption) (by rfl) (fun w hSw => ?_) ?_; rotate_left; (focus (first | (go_simp; done) | (go_simp; with_reducible rfl))); simp only [Act.put, List.setIfInBounds_toArray, List.set_cons_zero, List.set_cons_succ]
  refine tk (i := 3) (oi := ⟨some 16, _, _, _, _, _⟩) (v := ?_) rfl (by kernel_rfl) (fun _ _ _ h => h) (by assumption) (by rfl) (fun w hSw => ?_) ?_; rotate_left; (focus (first | (go_simp; done) | (go_simp; with_reducible rfl))); simp only [Act.put, List.setIfInBounds_toArray, List.set_cons_zero, List.set_cons_succ]
  refine tk (i := 4) (oi := ⟨some 17, _, _, _, _, _⟩) (v := ?_) rfl (by kernel_rfl) (fun _ _ _ h => h) (by assumption) (by rfl) (fun w hSw => ?_) ?_; rotate_left; (focus (first | (go_simp; done) | (go_simp; with_reducible rfl))); simp only [Act.put, List.setIfInBounds_toArray, List.set_cons_zero, List.set_cons_succ]
  refine tk (i := 5) (oi := ⟨some 18, _, _, _, _, _⟩) (v := ?_) rfl (by kernel_rfl) (fun _ _ _ h => h) (by assumption) (by rfl) (fun w hSw => ?_) ?_; rotate_left; (focus (first | (go_simp; done) | (go_simp; with_reducible rfl))); simp only [Act.put, List.setIfInBounds_toArray, List.set_cons_zero, List.set_cons_succ]
  refine tk (i := 6) (oi := ⟨some 19, _, _, _, _, _⟩) (v := ?_) rfl (by kernel_rfl) (fun _ _ _ h => h) (by assumption) (by rfl) (fun w hSw => ?_) ?_; rotate_left; (focus (first | (go_simp; done) | (go_simp; with_reducible rfl))); simp only [Act.put, List.setIfInBounds_toArray, List.set_cons_zero, List.set_cons_succ]
  refine tk (i := 7) (oi := ⟨some 20, _, _, _, _, _⟩) (v := ?_) rfl (by kernel_rfl) (fun _ _ _ h => h) (by assumption) (by rfl) (fun w hSw => ?_) ?_; rotate_left; (focus (first | (go_simp; done) | (go_simp; with_reducible rfl))); simp only [Act.put, List.setIfInBounds_toArray, List.set_cons_zero, List.set_cons_succ]
  refine tk (i := 8) (oi := ⟨some 21, _, _, _, _, _⟩) (v := ?_) rfl (by kernel_rfl) (fun _ _ _ h => h) (by assumption) (by rfl) (fun w hSw => ?_) ?_; rotate_left; (focus (first | (go_simp; done) | (go_simp; with_reducible rfl))); simp only [Act.put, List.setIfInBounds_toArray, List.set_cons_zero, List.set_cons_succ]
  refine tk (i := 9) (oi := ⟨some 22, _, _, _, _, _⟩) (v := ?_) rfl (by kernel_rfl) (fun _ _ _ h => h) (by assumption) (by rfl) (fun w hSw => ?_) ?_; rotate_left; (focus (first | (go_simp; done) | (go_simp; with_reducible rfl))); simp only [Act.put, List.setIfInBounds_toArray, List.set_cons_zero, List.set_cons_succ]
  refine tk (i := 10) (oi := ⟨some 23, _, _, _, _, _⟩) (v := ?_) rfl (by kernel_rfl) (fun _ _ _ h => h) (by assumption) (by rfl) (fun w hSw => ?_) ?_; rotate_left; (focus (first | (go_simp; done) | (go_simp; with_reducible rfl))); simp only [Act.put, List.setIfInBounds_toArray, List.set_cons_zero, List.set_cons_succ]
  refine tk (i := 11) (oi := ⟨some 24, _, _, _, _, _⟩) (v := ?_) rfl (by kernel_rfl) (fun _ _ _ h => h) (by assumption) (by rfl) (fun w hSw => ?_) ?_; rotate_left; (focus (first | (go_simp; done) | (go_simp; with_reducible rfl))); simp only [Act.put, List.setIfInBounds_toArray, List.set_cons_zero, List.set_cons_succ]
  refine tk (i := 12) (oi := ⟨some 25, _, _, _, _, _⟩) (v := ?_) rfl (by kernel_rfl) (fun _ _ _ h => h) (by assumption) (by rfl) (fun w hSw => ?_) ?_; rotate_left; (focus (first | (go_simp; done) | (go_simp; with_reducible rfl))); simp only [Act.put, List.setIfInBounds_toArray, List.set_cons_zero, List.set_cons_succ]
  refine tk (i := 13) (oi := ⟨some 26, _, _, _, _, _⟩) (v := ?_) rfl (by kernel_rfl) (fun _ _ _ h => h) (by assumption) (by rfl) (fun w hSw => ?_) ?_; rotate_left; (focus (first | (go_simp; done) | (go_simp; with_reducible rfl))); simp only [Act.put, List.setIfInBounds_toArray, List.set_cons_zero, List.set_cons_succ]
  refine tk (i := 14) (oi := ⟨some 27, _, _, _, _, _⟩) (v := ?_) rfl (by kernel_rfl) (fun _ _ _ h => h) (by assumption) (by rfl) (fun w hSw => ?_) ?_; rotate_left; (focus (first | (go_simp; done) | (go_simp; with_reducible rfl))); simp only [Act.put, List.setIfInBounds_toArray, List.set_cons_zero, List.set_cons_succ]
  refine tk (i := 15) (oi := ⟨some 28, _, _, _, _, _⟩) (v := ?_) rfl (by kernel_rfl) (fun _ _ _ h => h) (by assumption) (by rfl) (fun w hSw => ?_) ?_; rotate_left; (focus (first | (go_simp; done) | (go_simp; with_reducible rfl))); simp only [Act.put, List.setIfInBounds_toArray, List.set_cons_zero, List.set_cons_succ]
  refine alone (i := 16) (oi := ⟨some 29, _, _, _, _, _⟩) rfl (by kernel_rfl) (by rfl) (fun K hK => ?_); go_simp
  refine (hcall _ (hP.kept hS.1)).mono ?_
  rintro e w3 ⟨rfl, hk3⟩
  have hk03 := hS.1.transNo hk3
  obtain ⟨d0, d1⟩ := cells2 (hk03.blk hb (not_No _))
  go_simp
  refine hK.out (fun wx => Keeps No w wx ∧ wx.cell? ⟨bc, 0, none⟩ = some (.int .i64 (ver : Int)) ∧ wx.cell? ⟨bc, 1, none⟩ = some (.int .i64 (mark : Int))) _ _ (fun _ h => h) (⟨hk03, d0, d1⟩) ?_
  clear hK K hS
  intro hS
  refine tk (i := 17) (oi := ⟨some 30, _, _, _, _, _⟩) (v := ?_) rfl (by kernel_rfl) (fun _ _ _ h => h) (by assumption) (by rfl) (fun w hSw => ?_) ?_; rotate_left; (focus (first | (go_simp; done) | (go_simp; with_reducible rfl))); simp only [Act.put, List.setIfInBounds_toArray, List.set_cons_zero, List.set_cons_succ]
  refine tk (i := 18) (oi := ⟨some 31, _, _, _, _, _⟩) (v := ?_) rfl (by kernel_rfl) (fun _ _ _ h => h) (by assumption) (by rfl) (fun w hSw => ?_) ?_; rotate_left; (focus (first | (go_simp; done) | (go_simp; with_reducible rfl))); simp only [Act.put, List.setIfInBounds_toArray, List.set_cons_zero, List.set_cons_succ]
  refine tk (i := 19) (oi := ⟨some 6, _, _, _, _, _⟩) (v := ?_) rfl (by kernel_rfl) (fun _ _ _ h => h) (by assumption) (by rfl) (fun w hSw => ?_) ?_; rotate_left; (focus (first | (go_simp; done) | (go_simp; with_reducible rfl))); simp only [Act.put, List.setIfInBounds_toArray, List.set_cons_zero, List.set_cons_succ]
  refine tk (i := 20) (oi := ⟨some 7, _, _, _, _, _⟩) (v := ?_) rfl (by kernel_rfl) (fun _ _ _ h => h) (by assumption) (by rfl) (fun w hSw => ?_) ?_; rotate_left; (focus (first | (go_simp; done) | (go_simp; with_reducible rfl))); simp only [Act.put, List.setIfInBounds_toArray, List.set_cons_zero, List.set_cons_succ]
  refine wpAnyH_done (by kernel_rfl) ?_ _
  go_wp2_with fail
  go_ret2
  exact ⟨rfl, hS.1⟩

def RRPutPost (bd bv bc : Nat) (F : Nat → Prop) (R : RS × Int) (G : List K3) (w : World) (e : Ending) (w' : World) : Prop :=
  e = .returned (.int .i64 R.2) ∧ ∃ F', RRT w' bd bv bc F' R.1 G ∧ Step (FC F bc) (FC F' bc) w w'

set_option maxHeartbeats 4000000 in
theorem rrput_any (bd bv bc : Nat) (F : Nat → Prop) (s : RS) (G : List K3) (plain : List UInt8) (w : World) (h : RRT w bd bv bc F s G) (hA : s.A.length ≤ 1099511627776) (hG : G.length ≤ 1099511627776) (hW : s.D.W.length ≤ 1099511627776) (hv : s.ver ≤ 1099511627776)
    (hn : plain.length ≤ 140737488351232) :
    Calls Tryd.prog 42 #[.pointer (some ⟨bd, 0, none⟩), .pointer (some ⟨bv, 0, none⟩), .pointer (some ⟨bc, 0, none⟩), .string ⟨plain.toArray⟩] w (RRPutPost bd bv bc F (rput s G plain) G w) := by
  have h0 := h
  obtain ⟨hP, hb, hF⟩ := h
  obtain ⟨c0, c1⟩ := cells2 hb
  have hbl := (Array.getElem?_eq_some_iff.1 hb).1
  obtain ⟨Hv, ⟨vl, vg, hRV, _⟩, _⟩ := hP.vault
  obtain ⟨r1, r2, _⟩ := hRV
  obtain ⟨al, cl, rfl, _, _⟩ := SlK.ofOwn (xs := s.A.map recCells) (by decide) (recs_wide s.A) r2
  obtain ⟨v0, v1⟩ := cells2 r1
  obtain ⟨R, hR⟩ : ∃ R, R = rput s G plain := ⟨_, rfl⟩
  rw [← hR]
  rw [rput_eq] at hR
  obtain ⟨k, hk⟩ : ∃ k, k = (s.ver + 1) % 2 := ⟨_, rfl⟩
  obtain ⟨N, hN⟩ : ∃ N, N = s.ver + 1 := ⟨_, rfl⟩
  obtain ⟨M, hM⟩ : ∃ M, M = s.A.length + 1 := ⟨_, rfl⟩
  have hwk := wf2 (s.ver + 1)
  have hcw := rpwrite_any bd bv F s.D s.A G (((s.ver + 1) % 2 : Nat) : Int) (rtPg (s.A.length + 1) (s.ver + 1)) plain w hP hwk hG hA hW hn
  change Calls _ _ _ _ (PRPost bd bv F (rwr s G plain) G w) at hcw
  rw [← hk] at hcw
  obtain ⟨Q, hQ⟩ : ∃ Q, rwr s G plain = Q := ⟨_, rfl⟩
  rw [hQ] at hcw hR
  simp only [← hN, ← hM] at hcw
  simp only [rtPg_cells M N (by omega) (by omega)] at hcw
  unfold PRPost at hcw
  unfold rput2 at hR
  rw [← hN, ← hM] at hR
  obtain ⟨D, A, ver, mark⟩ := s
  simp only at *
  have hw1 : IntKind.i64.wrap (N : Int) = (N : Int) := by rw [IntKind.wrap_i64]; omega
  have hw2 : IntKind.i64.wrap (M : Int) = (M : Int) := by rw [IntKind.wrap_i64]; omega
  have ht : ((N : Int)).tmod 2 = (k : Int) := by rw [Int.tmod_eq_emod_of_nonneg (by omega)]; omega
  have ht2 : ((N : Int)) % 2 = (k : Int) := by omega
  have hw1b : (ver : Int) + 1 = (N : Int) := by omega
  have hw2b : (A.length : Int) + 1 = (M : Int) := by omega
  have HR := Lib.hid hR
  have HM := Lib.hid hM
  clear hR hQ hk hwk hN hM
  go_enter Tryd.func42, Tryd.ntmps42
  go_wp2_with fail
  refine hcw.mono ?_
  rintro e w6 ⟨rfl, F6, hP6, hs6⟩
  clear hcw
  obtain ⟨h6, hS6⟩ := h0.step hP6 hs6
  by_cases he : Q.2.2 = 0
  case neg =>
    have q1 : (Q.2.2 == 0) = false := by rw [beq_eq_false_iff_ne]; exact he
    have Hf := Lib.hid (show R = (⟨Q.1, Q.2.1, ver, mark⟩, Q.2.2) from by rw [HR.out, if_neg he])
    clear he
    go_wp2_with fail
    go_ret
    exact ⟨by rw [Hf.out]; rfl, F6, by rw [Hf.out]; exact h6, hS6⟩
  have q1 : (Q.2.2 == 0) = true := by rw [beq_iff_eq]; exact he
  have HR2 := Lib.hid (HR.out.trans (if_pos he))
  clear he HR
  have hcall := pr_sync bd bv F6 Q.1 Q.2.1 G w6 hP6
  go_wp2_with fail
  refine hcall.mono ?_
  rintro e w7 ⟨rfl, F7, hP7, hs7⟩
  clear hcall
  obtain ⟨h7, hS7⟩ := h6.step hP7 hs7
  have hS07 := hS6.trans hS7
  by_cases he : Q.1.sync.2 = 0
  case neg =>
    have r1 : (Q.1.sync.2 == 0) = false := by rw [beq_eq_false_iff_ne]; exact he
    have Hf := Lib.hid (HR2.out.trans (if_neg he))
    clear he
    go_wp2_with fail
    go_ret
    exact ⟨by rw [Hf.out]; rfl, F7, by rw [Hf.out]; exact h7, hS07⟩
  have r1 : (Q.1.sync.2 == 0) = true := by rw [beq_iff_eq]; exact he
  have HR3 := Lib.hid (HR2.out.trans (if_pos he))
  clear he HR2
  have hcall := pr_beat bd bv F7 Q.1.sync.1 Q.2.1 G w7 hP7
  go_wp2_with fail
  refine hcall.mono ?_
  rintro e w8 ⟨rfl, F8, hP8, hs8⟩
  clear hcall
  obtain ⟨h8, hS8⟩ := h7.step hP8 hs8
  have hS08 := hS07.trans hS8
  by_cases he : Q.1.sync.1.beat.2 = 0
  case neg =>
    have r3 : (Q.1.sync.1.beat.2 == 0) = false := by rw [beq_eq_false_iff_ne]; exact he
    have Hf := Lib.hid (HR3.out.trans (if_neg he))
    clear he
    go_wp2_with fail
    go_ret
    exact ⟨by rw [Hf.out]; rfl, F8, by rw [Hf.out]; exact h8, hS08⟩
  have r3 : (Q.1.sync.1.beat.2 == 0) = true := by rw [beq_iff_eq]; exact he
  have Hf := Lib.hid (HR3.out.trans (if_pos he))
  have Hr3 := Lib.hid he
  clear he HR3
  obtain ⟨-, hbc8, hF8⟩ := h8
  simp only at hbc8
  obtain ⟨d0, d1⟩ := cells2 hbc8
  have f0 := frozen_of_row w8 bc 0 _ _ hbc8
  have f1 := frozen_of_row w8 bc 1 _ _ hbc8
  have hb9 := heap_setCell_same w8 bc 0 _ _ (.int .i64 (N : Int)) hbc8
  have hb10 := heap_setCell_same _ bc 1 _ _ (.int .i64 (M : Int)) hb9
  have hk9 : Keeps (fun i => i = bc) w8 ((w8.setCell ⟨bc, 0, none⟩ (.int .i64 (N : Int))).setCell ⟨bc, 1, none⟩ (.int .i64 (M : Int))) := (Keeps.set w8 bc 0 _).setCell (p := ⟨bc, 1, none⟩) (fun _ => rfl) _
  have Hb10 := Lib.hid hb10
  clear hb9 hb10
  go_wp2_with fail
  go_ret
  refine ⟨by rw [Hf.out]; exact congrArg (fun z => Ending.returned (.int .i64 z)) Hr3.out, F8, by rw [Hf.out]; exact ⟨hP8.keep hk9 (fun i hi h => hF8 (by rw [← h]; exact hi)), by rw [Hb10.out]; rfl, hF8⟩, ?_⟩
  exact hS08.trans ⟨hk9.mono (fun i _ h => .inr h), fun i hi => .inl hi⟩
end Go.Proofs.YthimnkmoeonheaaDoor
