/- The walk of the law SpaceCopies. -/
import Derived.Test.YtpceigiofbeihaaLawSixP
import Derived.Deep.DeepCutAuto
import Derived.Deep.LoopGhost
namespace Go.Proofs.Ytpceigiofbeihaa
open Go.RowKit
set_option linter.unusedSimpArgs false
set_option linter.unusedVariables false

/-- What New yields. -/
def NewPost (n r : Int) (w : World) (p : Value) (k : Int) (w' : World) : Prop :=
  (∃ (n' r' : Nat), n = n' ∧ r = r' ∧ 1 ≤ n' ∧ n' ≤ 4096 ∧ r' ≤ n' ∧ k = 0 ∧ ∃ b tb, p = .pointer (some ⟨b, 0, none⟩) ∧ SM w' b tb (newT n' r') r') ∨ ((n < 1 ∨ 4096 < n ∨ r < 0 ∨ n < r) ∧ k = 2 ∧ p = .pointer none)

theorem new_any (n r : Int) (w : World) :
    Calls Try.prog 18 #[.int .i64 n, .int .i64 r] w fun e w' => ∃ p k, e = .returned (.tuple #[p, .int .i64 k]) ∧ NewPost n r w p k w' ∧ Keeps No w w' := by
  by_cases hb : n < 1 ∨ 4096 < n ∨ r < 0 ∨ n < r
  · refine (new_bad n r w hb).mono ?_
    rintro e w1 ⟨rfl, rfl⟩
    exact ⟨_, _, rfl, .inr ⟨hb, rfl, rfl⟩, Keeps.refl _ _⟩
  · obtain ⟨n', rfl⟩ := Int.eq_ofNat_of_zero_le (show 0 ≤ n by omega)
    obtain ⟨r', rfl⟩ := Int.eq_ofNat_of_zero_le (show 0 ≤ r by omega)
    refine (new_ok n' r' w (by omega) (by omega) (by omega)).mono ?_
    rintro e w1 ⟨b, tb, rfl, hS, g1, g2, g3, g4, hk⟩
    exact ⟨_, _, rfl, .inl ⟨n', r', rfl, rfl, by omega, by omega, by omega, rfl, b, tb, rfl, hS⟩, hk⟩

theorem playT_length (r : Nat) (L : List (I64 × I64)) : ∀ T, (playT r T L).length = T.length := by
  unfold playT
  induction L.take 60 with
  | nil => intro T; rfl
  | cons o t ih =>
    intro T
    rw [List.foldl_cons, ih]
    unfold stepT
    split
    · exact takeT_length T
    · split
      · exact markT_length T _
      · exact giveT_length T r _

set_option maxRecDepth 100000 in
set_option maxHeartbeats 4000000 in
theorem spaceCopies_any (x y : Int) (a : Option Addr) (m c : Nat) (L : List (I64 × I64)) (a' : Option Addr) (m' c' : Nat) (L' : List (I64 × I64)) (w : World) (hx : (Lit.int .i64 x).wf = true) (hy : (Lit.int .i64 y).wf = true)
    (hs : SlK w 2 a m c (L.map op6V)) (hm : m ≤ 140737488351232) (hs' : SlK w 2 a' m' c' (L'.map op6V)) (hm' : m' ≤ 140737488351232) :
    Calls Try.prog 9 #[.agg #[.int .i64 x, .int .i64 y], .slice a m c, .slice a' m' c'] w fun e w' => e = .returned (.bool true) ∧ Keeps No w w' := by
  have hx := wf_i64_iff hx
  have hy := wf_i64_iff hy
  obtain ⟨hx1, hx2⟩ := hx
  obtain ⟨hy1, hy2⟩ := hy
  go_enter Try.func9, Try.ntmps9
  go_wp2_with fail
  refine (first06_any _).mono ?_
  rintro e w1 ⟨rfl, hk1⟩
  have hkA : Keeps No w w1 := ((Keeps.refl No w).alloc (.cells #[.int .i64 x, .int .i64 y] 75)).transNo hk1
  have hbx := hk1.blk (heap_alloc_new w (.cells #[.int .i64 x, .int .i64 y] 75)) (not_No _)
  have hz1 := hk1.size
  have hc0 := cell_of_row w1 w.heap.size 0 _ _ (0, 0) hbx
  have hc1 := cell_of_row w1 w.heap.size 1 _ _ (0, 0) hbx
  go_wp2_with fail
  refine wp_region_held_drew (S := fun wx => wx.cell? ⟨w.heap.size, 0, none⟩ = some (.int .i64 x) ∧ wx.cell? ⟨w.heap.size, 1, none⟩ = some (.int .i64 y)) (by kernel_rfl) (⟨hc0, hc1⟩) (fun hS => ?_)
  refine tk (i := 0) (oi := ⟨some 21, _, _, _, _, _⟩) (v := ?_) rfl (by kernel_rfl) (fun _ _ _ h => h) (by assumption) (by rfl) (fun w hSw => ?_) ?_; rotate_left; (focus (first | (go_simp; done) | (go_simp; with_reducible rfl))); simp only [Act.put, List.setIfInBounds_toArray, List.set_cons_zero, List.set_cons_succ]
  refine tk (i := 1) (oi := ⟨some 22, _, _, _, _, _⟩) (v := ?_) rfl (by kernel_rfl) (fun _ _ _ h => h) (by assumption) (by rfl) (fun w hSw => ?_) ?_; rotate_left; (focus (first | (go_simp; done) | (go_simp; with_reducible rfl))); simp only [Act.put, List.setIfInBounds_toArray, List.set_cons_zero, List.set_cons_succ]
  refine tk (i := 2) (oi := ⟨some 23, _, _, _, _, _⟩) (v := ?_) rfl (by kernel_rfl) (fun _ _ _ h => h) (by assumption) (by rfl) (fun w hSw => ?_) ?_; rotate_left; (focus (first | (go_simp; done) | (go_simp; with_reducible rfl))); simp only [Act.put, List.setIfInBounds_toArray, List.set_cons_zero, List.set_cons_succ]
  refine tk (i := 3) (oi := ⟨some 24, _, _, _, _, _⟩) (v := ?_) rfl (by kernel_rfl) (fun _ _ _ h => h) (by assumption) (by rfl) (fun w hSw => ?_) ?_; rotate_left; (focus (first | (go_simp; done) | (go_simp; with_reducible rfl))); simp only [Act.put, List.setIfInBounds_toArray, List.set_cons_zero, List.set_cons_succ]
  refine tk (i := 4) (oi := ⟨some 7, _, _, _, _, _⟩) (v := ?_) rfl (by kernel_rfl) (fun _ _ _ h => h) (by assumption) (by rfl) (fun w hSw => ?_) ?_; rotate_left; (focus (first | (go_simp; done) | (go_simp; with_reducible rfl))); simp only [Act.put, List.setIfInBounds_toArray, List.set_cons_zero, List.set_cons_succ]
  refine tk (i := 5) (oi := ⟨some 8, _, _, _, _, _⟩) (v := ?_) rfl (by kernel_rfl) (fun _ _ _ h => h) (by assumption) (by rfl) (fun w hSw => ?_) ?_; rotate_left; (focus (first | (go_simp; done) | (go_simp; with_reducible rfl))); simp only [Act.put, List.setIfInBounds_toArray, List.set_cons_zero, List.set_cons_succ]
  refine wpAnyH_done (by kernel_rfl) ?_ _
  clear hc0 hc1 hbx hS
  go_wp2_with fail
  refine (new_any x y _).mono ?_
  rintro e w2 ⟨p, k, rfl, hnp, hk2⟩
  have hkB := (hkA.drew).transNo hk2
  go_upto_region 5 with fail
  go_cut [72] (fun s wx => s = .bool false ∧ Keeps No w wx)
  case first =>
    rcases hnp with ⟨n, r, rfl, rfl, h1, h2, h3, rfl, b, tb, rfl, hS⟩ | ⟨hbad, rfl, rfl⟩
    · have hfree := free_any b tb _ r w2 hS
      rw [newT_count] at hfree
      have ee : (((n - r : Nat)) : Int) = (n : Int) - r := by omega
      go_wp2_with fail
      refine hfree.mono ?_
      rintro e w3 ⟨rfl, rfl⟩
      rw [ee]
      go_wp2_with fail
      go_meet
      exact ⟨rfl, hkB⟩
    · by_cases q1 : x < 1
      · clear hbad
        go_wp2_with fail
        go_meet
        exact ⟨rfl, hkB⟩
      by_cases q2 : 4096 < x
      · clear hbad
        go_wp2_with fail
        go_meet
        exact ⟨rfl, hkB⟩
      by_cases q3 : y < 0
      · clear hbad
        go_wp2_with fail
        go_meet
        exact ⟨rfl, hkB⟩
      have q4 : decide (y ≤ x) = false := by simp; omega
      clear hbad
      go_wp2_with fail
      go_meet
      exact ⟨rfl, hkB⟩
  case rest =>
    obtain ⟨rfl, hcut⟩ := hcut
    clear hx1 hx2 hy1 hy2 hkB hnp hk2
    go_wp2_with fail
    refine (new_ok 20 2 _ (by omega) (by omega) (by omega)).mono ?_
    rintro e w3 ⟨b, tb, rfl, hS3, g1, g2, g3, g4, hk3⟩
    have hzc := hcut.size
    have hkC := hcut.transNo hk3
    have hsa := hs.kept hkC
    have hne : ∀ {a : Option Addr} {m c : Nat} {L : List (I64 × I64)}, SlK w 2 a m c (L.map op6V) → 0 < m → (a.getD default).block < w.heap.size := fun h hm => h.lt hm (by decide)
    have hna : 0 < m → (a.getD default).block ≠ tb := fun h => by have := hne hs h; omega
    have hna' : 0 < m' → (a'.getD default).block ≠ tb := fun h => by have := hne hs' h; omega
    have hla' : 0 < m' → (a'.getD default).block < w.heap.size := fun h => hne hs' h
    have HN := Lib.hid hna
    have HN' := Lib.hid hna'
    have HL' := Lib.hid hla'
    clear hne hna hna' hla'
    have hl0 := playT_length 2 L (newT 20 2)
    rw [newT_length 20 2 (by omega)] at hl0
    have Hl0 := Lib.hid hl0
    clear hl0
    go_wp2_with fail
    refine (play_any b tb _ 2 a m c L _ hS3 hsa hm HN.out).mono ?_
    rintro e w4 ⟨rfl, hS4, hk4⟩
    have hkD := hkC.trans hk4 (S := No) (fun k hk h => by omega)
    obtain ⟨T, hT⟩ : ∃ T, playT 2 (newT 20 2) L = T := ⟨_, rfl⟩
    rw [hT] at hS4 Hl0
    clear hT hsa
    go_wp2_with fail
    refine (copy_any b tb T 2 _ hS4).mono ?_
    rintro e w5 ⟨b', tb', rfl, hS5, f1, f2, f3, f4, hk5⟩
    have hkE := hkD.transNo hk5
    have hS5m := hS4.kept hk5
    have hbl := SM.b_lt hS4
    have htl := SM.tb_lt hS4
    have hz4 := hkD.size
    have hfree := free_any b tb T 2 w5 hS5m
    go_wp2_with fail
    refine hfree.mono ?_
    rintro e w6 ⟨rfl, rfl⟩
    have hlT' := playT_length 2 L' T
    obtain ⟨T2, hT2⟩ : ∃ T2, playT 2 T L' = T2 := ⟨_, rfl⟩
    have hplay1 := play_any b' tb' T 2 a' m' c' L' w5 hS5 (hs'.kept hkE) hm' (fun h => by have := HL'.out h; omega)
    rw [hT2] at hplay1 hlT'
    rw [Hl0.out] at hlT'
    have HlT := Lib.hid hlT'
    have HT2 := Lib.hid hT2
    clear hlT' hT2
    obtain ⟨f, hf⟩ : ∃ f, T.count false = f := ⟨_, rfl⟩
    rw [hf]
    have Hf := Lib.hid hf
    clear hf hfree
    go_wp2_with fail
    refine hplay1.mono ?_
    rintro e w6 ⟨rfl, hS6, hk6⟩
    have hS6m := hS5m.keep hk6 (by omega) (by omega)
    have hkF := hkE.trans hk6 (S := No) (fun k hk h => by omega)
    have hfree := free_any b tb T 2 w6 hS6m
    rw [Hf.out] at hfree
    clear hplay1
    go_wp2_with fail
    refine hfree.mono ?_
    rintro e w7 ⟨rfl, rfl⟩
    have hplay2 := play_any b tb T 2 a' m' c' L' w6 hS6m (hs'.kept hkF) hm' HN'.out
    rw [HT2.out] at hplay2
    clear hfree
    go_wp2_with fail
    refine hplay2.mono ?_
    rintro e w7 ⟨rfl, hS7, hk7⟩
    have hS7c := hS6.keep hk7 (by omega) (by omega)
    have hkG := hkF.trans hk7 (S := No) (fun k hk h => by omega)
    clear hplay2 HT2
    go_wp2_with fail
    go_loopw [15, 94] (fun _ i wx => ∃ j : Nat, j ≤ 20 ∧ i = .int .i64 j ∧ w7 = wx) (fun _ i _ => 20 - (intOf i).toNat)
    case atStart => exact ⟨0, Nat.zero_le _, rfl, rfl⟩
    case round =>
      obtain ⟨j, hj, rfl, rfl⟩ := hrel
      by_cases hlt : j < 20
      · have h1 := taken_any b tb T2 2 w7 hS7 j
        have h2 := taken_any b' tb' T2 2 w7 hS7c j
        obtain ⟨B, hB⟩ : ∃ B, takenAt T2 j = B := ⟨_, rfl⟩
        rw [hB] at h1 h2
        clear hB
        go_wp2_with fail
        refine h1.mono ?_
        rintro e w8 ⟨rfl, rfl⟩
        go_wp2_with fail
        refine h2.mono ?_
        rintro e w8 ⟨rfl, rfl⟩
        go_wp2_with fail
        go_roundw
        case rel => exact ⟨j + 1, by omega, by go_num, by first | rfl | trivial⟩
        case measure => simp [intOf]; omega
      · obtain rfl : 20 = j := by omega
        go_wp2_with fail
        refine (take_nil _).mono ?_
        rintro e w8 ⟨rfl, rfl⟩
        go_wp2_with fail
        refine (mark_nil _ _).mono ?_
        rintro e w8 ⟨rfl, rfl⟩
        go_wp2_with fail
        refine (give_nil _ _).mono ?_
        rintro e w8 ⟨rfl, rfl⟩
        go_wp2_with fail
        refine (taken_nil _ _).mono ?_
        rintro e w8 ⟨rfl, rfl⟩
        go_wp2_with fail
        refine (free_nil _).mono ?_
        rintro e w8 ⟨rfl, rfl⟩
        go_wp2_with fail
        refine (copy_nil _).mono ?_
        rintro e w8 ⟨rfl, rfl⟩
        go_wp2_with fail
        go_ret
        exact ⟨rfl, hkG⟩
end Go.Proofs.Ytpceigiofbeihaa
