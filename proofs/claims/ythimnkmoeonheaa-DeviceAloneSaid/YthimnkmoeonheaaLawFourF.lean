/- The walk of strongroomlaw04.first; DeviceMakes, DeviceOff. -/
import Derived.Test.YthimnkmoeonheaaDevO
import Derived.Test.YthimnkmoeonheaaRefDevB
import Derived.Test.YthimnkmoeonheaaConv
namespace Go.Proofs.Ythimnkmoeonheaa
open Go.RowKit
set_option linter.unusedSimpArgs false
set_option linter.unusedVariables false

theorem bs_infoD : (Try.prog.info? 22).map (·.size) = some 1 := by kernel_rfl

set_option maxRecDepth 100000 in
set_option maxHeartbeats 4000000 in
theorem first04_any (w : World) :
    Calls Try.prog 8 #[] w fun e w' => e = .returned (.bool true) ∧ Keeps No w w' := by
  go_enter Try.func8, Try.ntmps8
  go_wp2_with fail
  refine (d_new 4 w (by omega) (by omega)).mono ?_
  rintro e w1 ⟨b, F, rfl, hd1, hF, hk1⟩
  have hz1 := hk1.size
  go_wp2_with fail
  refine (dnew_bad 0 w1 (by omega)).mono ?_
  rintro e w2 ⟨rfl, rfl⟩
  have hlA := Sl.litK w1 #[.int .u8 97] 5 (1, 2) [97] rfl 1 rfl (by decide)
  have hkA : Keeps No w1 (w1.alloc (.cells #[.int .u8 97] 5 (1, 2))) := (Keeps.refl No w1).alloc _
  have kc := convB
  go_wp2_with fail
  refine (d_write b F _ 0 _ _ _ [97] _ (hd1.kept hkA) hlA (by omega) (fun _ h => by have := hd1.lt _ h; simp at this) (by simp)).mono ?_
  rintro e w3 ⟨rfl, F3, hd3, hs3⟩
  rw [show ((⟨List.replicate 4 (full []), [], none⟩ : DS).write 0 [97]) = (⟨List.replicate 4 (full []), [(0, full [97])], none⟩, 0) from rfl] at hd3 ⊢
  simp only at hd3 ⊢
  have hs13 := Step.noTrans hkA hs3
  have hF3 : ∀ i, F3 i → w.heap.size ≤ i := fun i hi => (hs13.fresh i hi).elim (hF i) (fun h => Nat.le_trans hz1 h)
  have hk03 : Keeps No w w3 := hk1.trans hs13.keeps (fun i hi h => absurd (hF i h) (by omega))
  clear hlA hkA hs3 hs13
  have hlA := Sl.litK w3 #[.int .u8 98] 5 (1, 2) [98] rfl 1 rfl (by decide)
  have hkA : Keeps No w3 (w3.alloc (.cells #[.int .u8 98] 5 (1, 2))) := (Keeps.refl No w3).alloc _
  go_wp2_with fail
  refine (d_write b F3 _ 0 _ _ _ [98] _ (hd3.kept hkA) hlA (by omega) (fun _ h => by have := hd3.lt _ h; simp at this) (by simp)).mono ?_
  rintro e w4 ⟨rfl, F4, hd4, hs4⟩
  rw [show ((⟨List.replicate 4 (full []), [(0, full [97])], none⟩ : DS).write 0 [98]) = (⟨List.replicate 4 (full []), [(0, full [97]), (0, full [98])], none⟩, 0) from rfl] at hd4 ⊢
  simp only at hd4 ⊢
  have hs34 := Step.noTrans hkA hs4
  have hF4 : ∀ i, F4 i → w.heap.size ≤ i := fun i hi => (hs34.fresh i hi).elim (hF3 i) (fun h => Nat.le_trans hk03.size h)
  have hk04 : Keeps No w w4 := hk03.trans hs34.keeps (fun i hi h => absurd (hF3 i h) (by omega))
  clear hlA hkA hs4 hs34
  go_wp2_with fail
  refine (dwaiting_any b F4 _ _ hd4).mono ?_
  rintro e w5 ⟨rfl, rfl⟩
  have hlB := Sl.lit w4 #[.bool true] 4 ([true].map Value.bool) rfl 1 rfl (by decide)
  have hkB : Keeps No w4 (w4.alloc (.cells #[.bool true] 4)) := (Keeps.refl No w4).alloc _
  go_wp2_with fail
  refine (dcrash_any b F4 _ _ _ _ [true] _ (hd4.kept hkB) hlB (fun _ h => by have := hd4.lt _ h; simp at this)).mono ?_
  rintro e w6 ⟨rfl, hd6, hk6⟩
  rw [show ((⟨List.replicate 4 (full []), [(0, full [97]), (0, full [98])], none⟩ : DS).crash [true]) = ⟨[full [97], full [], full [], full []], [], none⟩ from rfl] at hd6
  have hk06 : Keeps No w w6 := (hk04.transNo hkB).trans hk6 (fun i hi h => absurd (hF4 i h) (by omega))
  clear hlB hkB hk6
  go_wp2_with fail
  refine (d_read b F4 _ 0 _ hd6).mono ?_
  rintro e w7 ⟨v7, rfl, hown7, hk7⟩
  rw [show ((⟨[full [97], full [], full [], full []], [], none⟩ : DS).read 0) = (full [97], 0) from rfl] at hown7 ⊢
  simp only at hown7 ⊢
  obtain ⟨a7, c7, rfl, hs7, _⟩ := Sl.ofOwn hown7
  have hd7 := hd6.kept hk7
  have hk07 := hk06.transNo hk7
  go_wp2_with fail
  refine (dlimit_any b F4 _ 0 _ hd7 (by omega)).mono ?_
  rintro e w8 ⟨rfl, hd8, hk8⟩
  have hk08 : Keeps No w w8 := hk07.trans hk8 (fun i hi h => absurd (hF4 i h) (by omega))
  have hs8 := hs7.keep hk8 (fun h0 h => by have := hd6.lt _ h; have := (hown7.lt _ (by rw [hs7.isSome h0]; rfl)).1; omega)
  rw [show ((⟨[full [97], full [], full [], full []], [], none⟩ : DS).limit 0) = ⟨[full [97], full [], full [], full []], [], some 0⟩ from rfl] at hd8
  have hstr := fun wx (hx : Keeps No w8 wx) => strB (hs8.kept hx)
  go_wp2_with fail
  have heq : (full [97] == ((⟨#[97]⟩ : ByteArray) ++ (⟨#[0, 0, 0, 0, 0, 0, 0, 0, 0, 0, 0, 0, 0, 0, 0]⟩ : ByteArray)).toList) = true := by
    rw [ByteArray.toList_eq, beq_iff_eq]; rfl
  refine wp_region_held_drew (S := fun wx => Keeps No w8 wx) (by kernel_rfl) ((Keeps.refl _ _).drew) (fun hS => ?_)
  refine tk (i := 0) (oi := ⟨some 54, _, _, _, _, _⟩) (v := ?_) rfl (by kernel_rfl) (fun _ _ _ h => h) (by assumption) (by rfl) (fun w hSw => ?_) ?_; rotate_left; (focus (first | (go_simp; done) | (go_simp; with_reducible rfl))); simp only [Act.put, List.setIfInBounds_toArray, List.set_cons_zero, List.set_cons_succ]
  refine tk (i := 1) (oi := ⟨some 55, _, _, _, _, _⟩) (v := ?_) rfl (by kernel_rfl) (fun _ _ _ h => h) (by assumption) (by rfl) (fun w hSw => ?_) ?_; rotate_left; (focus (first | (go_simp; done) | (go_simp; with_reducible rfl))); simp only [Act.put, List.setIfInBounds_toArray, List.set_cons_zero, List.set_cons_succ]
  refine tk (i := 2) (oi := ⟨some 56, _, _, _, _, _⟩) (v := ?_) rfl (by kernel_rfl) (fun _ _ _ h => h) (by assumption) (by rfl) (fun w hSw => ?_) ?_; rotate_left; (focus (first | (go_simp; done) | (go_simp; with_reducible rfl))); simp only [Act.put, List.setIfInBounds_toArray, List.set_cons_zero, List.set_cons_succ]
  refine tk (i := 3) (oi := ⟨some 57, _, _, _, _, _⟩) (v := ?_) rfl (by kernel_rfl) (fun _ _ _ h => h) (by assumption) (by rfl) (fun w hSw => ?_) ?_; rotate_left; (focus (first | (go_simp; done) | (go_simp; with_reducible rfl))); simp only [Act.put, List.setIfInBounds_toArray, List.set_cons_zero, List.set_cons_succ]
  refine tk (i := 4) (oi := ⟨some 58, _, _, _, _, _⟩) (v := ?_) rfl (by kernel_rfl) (fun _ _ _ h => h) (by assumption) (by rfl) (fun w hSw => ?_) ?_; rotate_left; (focus (first | (go_simp; done) | (go_simp; with_reducible rfl))); simp only [Act.put, List.setIfInBounds_toArray, List.set_cons_zero, List.set_cons_succ]
  refine alone (i := 5) (oi := ⟨some 59, _, _, _, _, _⟩) rfl (by kernel_rfl) (by rfl) (fun K hK => ?_)
  refine wp_make_full _ _ 22 rfl w8.heap.size 5 _ 1 1 Try.underlying22 byte_infoD _ _ 15 rfl rfl (by decide) (by decide) (Nat.le_refl _) ?_
  intro w9 hown9 hg9
  have hk9 : Keeps No w8 w9 := hS.grown hg9 (fun _ h => by cases h)
  rw [show (Value.int .u8 0).cells = #[.int .u8 0] from rfl, toList_madeCells_one, show List.replicate (15 * 1) (Value.int .u8 0) = (List.replicate 15 (0 : UInt8)).map byteV from by simp [byteV]] at hown9
  obtain ⟨a9, c9, he9, hs9, _⟩ := Sl.ofOwn hown9
  obtain ⟨rfl, rfl⟩ : some ⟨w8.drew.heap.size, 0, none⟩ = a9 ∧ 15 = c9 := by
    simp only [Value.slice.injEq] at he9
    exact ⟨he9.1, he9.2.2⟩
  have hs9' : Sl w9 (some ⟨w8.heap.size, 0, none⟩) 15 15 ((List.replicate 15 (0 : UInt8)).map byteV) := hs9
  have hstr2 := fun wx (hx : Keeps No w9 wx) => strB (hs9'.kept hx)
  refine hK.out (fun wx => Keeps No w9 wx) _ _ (fun _ hx => hk9.transNo hx) (Keeps.refl _ _) ?_
  clear hK K hS
  intro hS
  refine tk (i := 6) (oi := ⟨some 60, _, _, _, _, _⟩) (v := ?_) rfl (by kernel_rfl) (fun _ _ _ h => h) (by assumption) (by rfl) (fun w hSw => ?_) ?_; rotate_left; (focus (first | (go_simp; done) | (go_simp; with_reducible rfl))); simp only [Act.put, List.setIfInBounds_toArray, List.set_cons_zero, List.set_cons_succ]
  refine tk (i := 7) (oi := ⟨some 61, _, _, _, _, _⟩) (v := ?_) rfl (by kernel_rfl) (fun _ _ _ h => h) (by assumption) (by rfl) (fun w hSw => ?_) ?_; rotate_left; (focus (first | (go_simp; done) | (go_simp; with_reducible rfl))); simp only [Act.put, List.setIfInBounds_toArray, List.set_cons_zero, List.set_cons_succ]
  refine tk (i := 8) (oi := ⟨some 62, _, _, _, _, _⟩) (v := ?_) rfl (by kernel_rfl) (fun _ _ _ h => h) (by assumption) (by rfl) (fun w hSw => ?_) ?_; rotate_left; (focus (first | (go_simp; done) | (go_simp; with_reducible rfl))); simp only [Act.put, List.setIfInBounds_toArray, List.set_cons_zero, List.set_cons_succ]
  refine tk (i := 9) (oi := ⟨some 63, _, _, _, _, _⟩) (v := ?_) rfl (by kernel_rfl) (fun _ _ _ h => h) (by assumption) (by rfl) (fun w hSw => ?_) ?_; rotate_left; (focus (first | (go_simp; done) | (go_simp; with_reducible rfl))); simp only [Act.put, List.setIfInBounds_toArray, List.set_cons_zero, List.set_cons_succ]
  refine tk (i := 10) (oi := ⟨some 64, _, _, _, _, _⟩) (v := ?_) rfl (by kernel_rfl) (fun _ _ _ h => h) (by assumption) (by rfl) (fun w hSw => ?_) ?_; rotate_left; (focus (first | (go_simp; done) | (go_simp; with_reducible rfl))); simp only [Act.put, List.setIfInBounds_toArray, List.set_cons_zero, List.set_cons_succ]
  refine tk (i := 11) (oi := ⟨some 65, _, _, _, _, _⟩) (v := ?_) rfl (by kernel_rfl) (fun _ _ _ h => h) (by assumption) (by rfl) (fun w hSw => ?_) ?_; rotate_left; (focus (first | (go_simp; done) | (go_simp; with_reducible rfl))); simp only [Act.put, List.setIfInBounds_toArray, List.set_cons_zero, List.set_cons_succ]
  refine alone (i := 12) (oi := ⟨some 66, _, _, _, _, _⟩) rfl (by kernel_rfl) (by rfl) (fun K hK => ?_); go_simp
  refine (dsync_off b F4 _ _ (hd8.kept (hk9.transNo hS)) rfl).mono ?_
  rintro e w10 ⟨rfl, rfl⟩
  go_simp
  refine hK.out (fun wx => Keeps No w9 wx) _ _ (fun _ h => h) (hS) ?_
  clear hK K hS
  intro hS
  refine tk (i := 13) (oi := ⟨some 67, _, _, _, _, _⟩) (v := ?_) rfl (by kernel_rfl) (fun _ _ _ h => h) (by assumption) (by rfl) (fun w hSw => ?_) ?_; rotate_left; (focus (first | (go_simp; done) | (go_simp; with_reducible rfl))); simp only [Act.put, List.setIfInBounds_toArray, List.set_cons_zero, List.set_cons_succ]
  refine tk (i := 14) (oi := ⟨some 68, _, _, _, _, _⟩) (v := ?_) rfl (by kernel_rfl) (fun _ _ _ h => h) (by assumption) (by rfl) (fun w hSw => ?_) ?_; rotate_left; (focus (first | (go_simp; done) | (go_simp; with_reducible rfl))); simp only [Act.put, List.setIfInBounds_toArray, List.set_cons_zero, List.set_cons_succ]
  refine tk (i := 15) (oi := ⟨some 69, _, _, _, _, _⟩) (v := ?_) rfl (by kernel_rfl) (fun _ _ _ h => h) (by assumption) (by rfl) (fun w hSw => ?_) ?_; rotate_left; (focus (first | (go_simp; done) | (go_simp; with_reducible rfl))); simp only [Act.put, List.setIfInBounds_toArray, List.set_cons_zero, List.set_cons_succ]
  refine tk (i := 16) (oi := ⟨some 70, _, _, _, _, _⟩) (v := ?_) rfl (by kernel_rfl) (fun _ _ _ h => h) (by assumption) (by rfl) (fun w hSw => ?_) ?_; rotate_left; (focus (first | (go_simp; done) | (go_simp; with_reducible rfl))); simp only [Act.put, List.setIfInBounds_toArray, List.set_cons_zero, List.set_cons_succ]
  refine alone (i := 17) (oi := ⟨some 71, _, _, _, _, _⟩) rfl (by kernel_rfl) (by rfl) (fun K hK => ?_); go_simp
  have hS0 := hS
  refine (dover_bad b F4 _ 4 _ _ _ _ (hd8.kept (hk9.transNo hS)) rfl (by omega)).mono ?_
  rintro e w11 ⟨rfl, hk11⟩
  go_simp
  refine hK.out (fun wx => Keeps No w11 wx) _ _ (fun _ hx => hS.transNo (Keeps.transNo (hk11) hx)) (Keeps.refl _ _) ?_
  clear hK K hS
  intro hS
  refine tk (i := 18) (oi := ⟨some 72, _, _, _, _, _⟩) (v := ?_) rfl (by kernel_rfl) (fun _ _ _ h => h) (by assumption) (by rfl) (fun w hSw => ?_) ?_; rotate_left; (focus (first | (go_simp; done) | (go_simp; with_reducible rfl))); simp only [Act.put, List.setIfInBounds_toArray, List.set_cons_zero, List.set_cons_succ]
  refine tk (i := 19) (oi := ⟨some 73, _, _, _, _, _⟩) (v := ?_) rfl (by kernel_rfl) (fun _ _ _ h => h) (by assumption) (by rfl) (fun w hSw => ?_) ?_; rotate_left; (focus (first | (go_simp; done) | (go_simp; with_reducible rfl))); simp only [Act.put, List.setIfInBounds_toArray, List.set_cons_zero, List.set_cons_succ]
  refine tk (i := 20) (oi := ⟨some 74, _, _, _, _, _⟩) (v := ?_) rfl (by kernel_rfl) (fun _ _ _ h => h) (by assumption) (by rfl) (fun w hSw => ?_) ?_; rotate_left; (focus (first | (go_simp; done) | (go_simp; with_reducible rfl))); simp only [Act.put, List.setIfInBounds_toArray, List.set_cons_zero, List.set_cons_succ]
  refine tk (i := 21) (oi := ⟨some 75, _, _, _, _, _⟩) (v := ?_) rfl (by kernel_rfl) (fun _ _ _ h => h) (by assumption) (by rfl) (fun w hSw => ?_) ?_; rotate_left; (focus (first | (go_simp; done) | (go_simp; with_reducible rfl))); simp only [Act.put, List.setIfInBounds_toArray, List.set_cons_zero, List.set_cons_succ]
  refine alone (i := 22) (oi := ⟨some 76, _, _, _, _, _⟩) rfl (by kernel_rfl) (by rfl) (fun K hK => ?_); go_simp
  refine (dblocks_any b F4 _ _ (hd8.kept ((hk9.transNo (hS0.transNo hk11)).transNo hS))).mono ?_
  rintro e w12 ⟨rfl, rfl⟩
  go_simp
  refine hK.out (fun wx => Keeps No w11 wx) _ _ (fun _ h => h) (hS) ?_
  clear hK K hS
  intro hS
  refine tk (i := 23) (oi := ⟨some 77, _, _, _, _, _⟩) (v := ?_) rfl (by kernel_rfl) (fun _ _ _ h => h) (by assumption) (by rfl) (fun w hSw => ?_) ?_; rotate_left; (focus (first | (go_simp; done) | (go_simp; with_reducible rfl))); simp only [Act.put, List.setIfInBounds_toArray, List.set_cons_zero, List.set_cons_succ]
  refine tk (i := 24) (oi := ⟨some 78, _, _, _, _, _⟩) (v := ?_) rfl (by kernel_rfl) (fun _ _ _ h => h) (by assumption) (by rfl) (fun w hSw => ?_) ?_; rotate_left; (focus (first | (go_simp; done) | (go_simp; with_reducible rfl))); simp only [Act.put, List.setIfInBounds_toArray, List.set_cons_zero, List.set_cons_succ]
  refine tk (i := 25) (oi := ⟨some 0, _, _, _, _, _⟩) (v := ?_) rfl (by kernel_rfl) (fun _ _ _ h => h) (by assumption) (by rfl) (fun w hSw => ?_) ?_; rotate_left; (focus (first | (go_simp; done) | (go_simp; with_reducible rfl))); simp only [Act.put, List.setIfInBounds_toArray, List.set_cons_zero, List.set_cons_succ]
  refine wpAnyH_done (by kernel_rfl) ?_ _
  go_wp2_with fail
  go_ret
  exact ⟨rfl, hk08.transNo (hk9.transNo (hS0.transNo (hk11.transNo hS)))⟩

set_option maxRecDepth 100000 in
set_option maxHeartbeats 4000000 in
theorem deviceMakes_any (n : Int) (w : World) (hn : (Lit.int .i64 n).wf = true) :
    Calls Try.prog 6 #[.int .i64 n] w fun e w' => e = .returned (.bool true) ∧ Keeps No w w' := by
  have hw := wf_i64_iff hn
  clear hn
  go_enter Try.func6, Try.ntmps6
  go_wp2_with fail
  refine (first04_any _).mono ?_
  rintro e w1 ⟨rfl, hk1⟩
  by_cases hb : n < 1 ∨ 4096 < n
  · go_wp2_with fail
    refine (dnew_bad n _ hb).mono ?_
    rintro e w2 ⟨rfl, rfl⟩
    have hB : ∃ x y, x = decide (n < 1) ∧ y = decide (4096 < n) ∧ (x = true ∨ (x = false ∧ y = true)) := by
      refine ⟨_, _, rfl, rfl, ?_⟩
      by_cases h1 : n < 1
      · exact .inl (decide_eq_true h1)
      · exact .inr ⟨decide_eq_false h1, decide_eq_true (by omega)⟩
    have finish : ∀ (u : World), Keeps No w u → Keeps No w u := fun _ h => h
    have hlB := Sl.lit w1 #[.bool true] 4 ([true].map Value.bool) rfl 1 rfl (by decide)
    have hkB : Keeps No w1 (w1.alloc (.cells #[.bool true] 4)) := (Keeps.refl No w1).alloc _
    by_cases h1 : n < 1
    all_goals
      go_wp2_with fail
      refine (dlimit_nil 1 _).mono ?_
      rintro e w2 ⟨rfl, rfl⟩
      go_wp2_with fail
      refine (dcrash_nil _ _ _ _).mono ?_
      rintro e w3 ⟨rfl, rfl⟩
      go_wp2_with fail
      refine (dread_nil 0 _).mono ?_
      rintro e w4 ⟨rfl, rfl⟩
      go_wp2_with fail
      refine (dwrite_nil 0 _ _ _ _).mono ?_
      rintro e w5 ⟨rfl, rfl⟩
      go_wp2_with fail
      refine (dsync_nil _).mono ?_
      rintro e w6 ⟨rfl, rfl⟩
      go_wp2_with fail
      refine (dbeat_nil _).mono ?_
      rintro e w7 ⟨rfl, rfl⟩
      go_wp2_with fail
      refine (dover_nil 0 _ _ _ _).mono ?_
      rintro e w8 ⟨rfl, hk8⟩
      go_wp2_with fail
      refine (dblocks_nil _).mono ?_
      rintro e w9 ⟨rfl, rfl⟩
      go_wp2_with fail
      refine (dwaiting_nil _).mono ?_
      rintro e w10 ⟨rfl, rfl⟩
      go_wp2_with fail
      go_ret
      exact ⟨rfl, (hk1.transNo hkB).transNo hk8⟩
  · obtain ⟨k, rfl⟩ : ∃ k : Nat, n = (k : Int) := ⟨n.toNat, by omega⟩
    have hk1' : 1 ≤ k := by omega
    have hk2' : k ≤ 4096 := by omega
    have q1 : ¬ ((k : Int) < 1) := by omega
    have q2 : ¬ ((4096 : Int) < (k : Int)) := by omega
    clear hb
    go_wp2_with fail
    refine (d_new k w1 hk1' hk2').mono ?_
    rintro e w2 ⟨b, F, rfl, hd, hF, hk2⟩
    have hz1 := hk1.size
    have hrd : (⟨List.replicate k (full []), [], none⟩ : DS).read ((k : Int) - 1) = (full [], 0) := by
      have e1 : ((k : Int) - 1).toNat = k - 1 := by omega
      have e2 : rightD k ((k : Int) - 1) 0 = true := by unfold rightD; simp; omega
      simp [DS.read, e2, DS.at_, e1, lastW, hk1', show k - 1 < k from by omega]
    have hrd2 : (⟨List.replicate k (full []), [], none⟩ : DS).read (k : Int) = ([], 2) := by
      have e2 : rightD k (k : Int) 0 = false := by unfold rightD; simp
      simp [DS.read, e2]
    have hr1 := d_read b F _ ((k : Int) - 1) w2 hd
    rw [hrd] at hr1
    clear hrd
    go_wp2_with fail
    refine hr1.mono ?_
    rintro e w3 ⟨v3, rfl, hown3, hk3⟩
    simp only at hown3 ⊢
    obtain ⟨a3, c3, rfl, hs3, _⟩ := Sl.ofOwn hown3
    have hr2 := d_read b F _ (k : Int) w3 (hd.kept hk3)
    rw [hrd2] at hr2
    clear hrd2 hr1
    go_wp2_with fail
    refine hr2.mono ?_
    rintro e w4 ⟨v4, rfl, hown4, hk4⟩
    obtain ⟨a4, c4, rfl, _, _⟩ := Sl.ofOwn hown4
    simp only at hown4 ⊢
    have hstr := fun wx (hx : Keeps No w4 wx) => strB ((hs3.kept hk4).kept hx)
    have hd4 := (hd.kept hk3).kept hk4
    clear hr2 hown4 hown3
    go_wp2_with fail
    refine wp_region_held_drew (S := fun wx => Keeps No w4 wx) (by kernel_rfl) ((Keeps.refl _ _).drew) (fun hS => ?_)
    refine tk (i := 0) (oi := ⟨some 88, _, _, _, _, _⟩) (v := ?_) rfl (by kernel_rfl) (fun _ _ _ h => h) (by assumption) (by rfl) (fun w hSw => ?_) ?_; rotate_left; (focus (first | (go_simp; done) | (go_simp; with_reducible rfl))); simp only [Act.put, List.setIfInBounds_toArray, List.set_cons_zero, List.set_cons_succ]
    refine tk (i := 1) (oi := ⟨some 89, _, _, _, _, _⟩) (v := ?_) rfl (by kernel_rfl) (fun _ _ _ h => h) (by assumption) (by rfl) (fun w hSw => ?_) ?_; rotate_left; (focus (first | (go_simp; done) | (go_simp; with_reducible rfl))); simp only [Act.put, List.setIfInBounds_toArray, List.set_cons_zero, List.set_cons_succ]
    refine tk (i := 2) (oi := ⟨some 90, _, _, _, _, _⟩) (v := ?_) rfl (by kernel_rfl) (fun _ _ _ h => h) (by assumption) (by rfl) (fun w hSw => ?_) ?_; rotate_left; (focus (first | (go_simp; done) | (go_simp; with_reducible rfl))); simp only [Act.put, List.setIfInBounds_toArray, List.set_cons_zero, List.set_cons_succ]
    refine tk (i := 3) (oi := ⟨some 91, _, _, _, _, _⟩) (v := ?_) rfl (by kernel_rfl) (fun _ _ _ h => h) (by assumption) (by rfl) (fun w hSw => ?_) ?_; rotate_left; (focus (first | (go_simp; done) | (go_simp; with_reducible rfl))); simp only [Act.put, List.setIfInBounds_toArray, List.set_cons_zero, List.set_cons_succ]
    refine tk (i := 4) (oi := ⟨some 92, _, _, _, _, _⟩) (v := ?_) rfl (by kernel_rfl) (fun _ _ _ h => h) (by assumption) (by rfl) (fun w hSw => ?_) ?_; rotate_left; (focus (first | (go_simp; done) | (go_simp; with_reducible rfl))); simp only [Act.put, List.setIfInBounds_toArray, List.set_cons_zero, List.set_cons_succ]
    refine tk (i := 5) (oi := ⟨some 93, _, _, _, _, _⟩) (v := ?_) rfl (by kernel_rfl) (fun _ _ _ h => h) (by assumption) (by rfl) (fun w hSw => ?_) ?_; rotate_left; (focus (first | (go_simp; done) | (go_simp; with_reducible rfl))); simp only [Act.put, List.setIfInBounds_toArray, List.set_cons_zero, List.set_cons_succ]
    refine tk (i := 6) (oi := ⟨some 94, _, _, _, _, _⟩) (v := ?_) rfl (by kernel_rfl) (fun _ _ _ h => h) (by assumption) (by rfl) (fun w hSw => ?_) ?_; rotate_left; (focus (first | (go_simp; done) | (go_simp; with_reducible rfl))); simp only [Act.put, List.setIfInBounds_toArray, List.set_cons_zero, List.set_cons_succ]
    refine tk (i := 7) (oi := ⟨some 95, _, _, _, _, _⟩) (v := ?_) rfl (by kernel_rfl) (fun _ _ _ h => h) (by assumption) (by rfl) (fun w hSw => ?_) ?_; rotate_left; (focus (first | (go_simp; done) | (go_simp; with_reducible rfl))); simp only [Act.put, List.setIfInBounds_toArray, List.set_cons_zero, List.set_cons_succ]
    refine tk (i := 8) (oi := ⟨some 96, _, _, _, _, _⟩) (v := ?_) rfl (by kernel_rfl) (fun _ _ _ h => h) (by assumption) (by rfl) (fun w hSw => ?_) ?_; rotate_left; (focus (first | (go_simp; done) | (go_simp; with_reducible rfl))); simp only [Act.put, List.setIfInBounds_toArray, List.set_cons_zero, List.set_cons_succ]
    refine alone (i := 9) (oi := ⟨some 97, _, _, _, _, _⟩) rfl (by kernel_rfl) (by rfl) (fun K hK => ?_); go_simp
    refine (rfull_any [] _ (by simp)).mono ?_
    rintro e w5 ⟨rfl, rfl⟩
    go_simp
    refine hK.out (fun wx => Keeps No w4 wx) _ _ (fun _ h => h) (hS) ?_
    clear hK K hS
    intro hS
    refine tk (i := 10) (oi := ⟨some 98, _, _, _, _, _⟩) (v := ?_) rfl (by kernel_rfl) (fun _ _ _ h => h) (by assumption) (by rfl) (fun w hSw => ?_) ?_; rotate_left; (focus (first | (go_simp; done) | (go_simp; with_reducible rfl))); simp only [Act.put, List.setIfInBounds_toArray, List.set_cons_zero, List.set_cons_succ]
    refine tk (i := 11) (oi := ⟨some 99, _, _, _, _, _⟩) (v := ?_) rfl (by kernel_rfl) (fun _ _ _ h => h) (by assumption) (by rfl) (fun w hSw => ?_) ?_; rotate_left; (focus (first | (go_simp; done) | (go_simp; with_reducible rfl))); simp only [Act.put, List.setIfInBounds_toArray, List.set_cons_zero, List.set_cons_succ]
    refine tk (i := 12) (oi := ⟨some 100, _, _, _, _, _⟩) (v := ?_) rfl (by kernel_rfl) (fun _ _ _ h => h) (by assumption) (by rfl) (fun w hSw => ?_) ?_; rotate_left; (focus (first | (go_simp; done) | (go_simp; with_reducible rfl))); simp only [Act.put, List.setIfInBounds_toArray, List.set_cons_zero, List.set_cons_succ]
    refine tk (i := 13) (oi := ⟨some 101, _, _, _, _, _⟩) (v := ?_) rfl (by kernel_rfl) (fun _ _ _ h => h) (by assumption) (by rfl) (fun w hSw => ?_) ?_; rotate_left; (focus (first | (go_simp; done) | (go_simp; with_reducible rfl))); simp only [Act.put, List.setIfInBounds_toArray, List.set_cons_zero, List.set_cons_succ]
    refine tk (i := 14) (oi := ⟨some 102, _, _, _, _, _⟩) (v := ?_) rfl (by kernel_rfl) (fun _ _ _ h => h) (by assumption) (by rfl) (fun w hSw => ?_) ?_; rotate_left; (focus (first | (go_simp; done) | (go_simp; with_reducible rfl))); simp only [Act.put, List.setIfInBounds_toArray, List.set_cons_zero, List.set_cons_succ]
    refine tk (i := 15) (oi := ⟨some 103, _, _, _, _, _⟩) (v := ?_) rfl (by kernel_rfl) (fun _ _ _ h => h) (by assumption) (by rfl) (fun w hSw => ?_) ?_; rotate_left; (focus (first | (go_simp; done) | (go_simp; with_reducible rfl))); simp only [Act.put, List.setIfInBounds_toArray, List.set_cons_zero, List.set_cons_succ]
    refine tk (i := 16) (oi := ⟨some 104, _, _, _, _, _⟩) (v := ?_) rfl (by kernel_rfl) (fun _ _ _ h => h) (by assumption) (by rfl) (fun w hSw => ?_) ?_; rotate_left; (focus (first | (go_simp; done) | (go_simp; with_reducible rfl))); simp only [Act.put, List.setIfInBounds_toArray, List.set_cons_zero, List.set_cons_succ]
    refine tk (i := 17) (oi := ⟨some 105, _, _, _, _, _⟩) (v := ?_) rfl (by kernel_rfl) (fun _ _ _ h => h) (by assumption) (by rfl) (fun w hSw => ?_) ?_; rotate_left; (focus (first | (go_simp; done) | (go_simp; with_reducible rfl))); simp only [Act.put, List.setIfInBounds_toArray, List.set_cons_zero, List.set_cons_succ]
    refine tk (i := 19) (oi := ⟨some 107, _, _, _, _, _⟩) (v := ?_) rfl (by kernel_rfl) (fun _ _ _ h => h) (by assumption) (by rfl) (fun w hSw => ?_) ?_; rotate_left; (focus (first | (go_simp; done) | (go_simp; with_reducible rfl))); simp only [Act.put, List.setIfInBounds_toArray, List.set_cons_zero, List.set_cons_succ]
    refine alone (i := 18) (oi := ⟨some 106, _, _, _, _, _⟩) rfl (by kernel_rfl) (by rfl) (fun K hK => ?_); go_simp
    refine (dblocks_any b F _ _ (hd4.kept hS)).mono ?_
    rintro e w5 ⟨rfl, rfl⟩
    rw [List.length_replicate]
    go_simp
    refine hK.out (fun wx => Keeps No w4 wx) _ _ (fun _ h => h) (hS) ?_
    clear hK K hS
    intro hS
    refine tk (i := 20) (oi := ⟨some 108, _, _, _, _, _⟩) (v := ?_) rfl (by kernel_rfl) (fun _ _ _ h => h) (by assumption) (by rfl) (fun w hSw => ?_) ?_; rotate_left; (focus (first | (go_simp; done) | (go_simp; with_reducible rfl))); simp only [Act.put, List.setIfInBounds_toArray, List.set_cons_zero, List.set_cons_succ]
    refine tk (i := 21) (oi := ⟨some 109, _, _, _, _, _⟩) (v := ?_) rfl (by kernel_rfl) (fun _ _ _ h => h) (by assumption) (by rfl) (fun w hSw => ?_) ?_; rotate_left; (focus (first | (go_simp; done) | (go_simp; with_reducible rfl))); simp only [Act.put, List.setIfInBounds_toArray, List.set_cons_zero, List.set_cons_succ]
    refine tk (i := 22) (oi := ⟨some 2, _, _, _, _, _⟩) (v := ?_) rfl (by kernel_rfl) (fun _ _ _ h => h) (by assumption) (by rfl) (fun w hSw => ?_) ?_; rotate_left; (focus (first | (go_simp; done) | (go_simp; with_reducible rfl))); simp only [Act.put, List.setIfInBounds_toArray, List.set_cons_zero, List.set_cons_succ]
    refine wpAnyH_done (by kernel_rfl) ?_ _
    go_wp2_with fail
    go_ret
    exact ⟨rfl, hk1.transNo (hk2.transNo (hk3.transNo (hk4.transNo hS)))⟩
end Go.Proofs.Ythimnkmoeonheaa
