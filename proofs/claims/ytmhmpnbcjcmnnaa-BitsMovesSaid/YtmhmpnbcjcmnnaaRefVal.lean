/- The walks of the document's answers for floats and values. -/
import Derived.Test.YtmhmpnbcjcmnnaaZoneM
namespace Go.Proofs.Ytmhmpnbcjcmnnaa
open Go.RowKit
set_option linter.unusedSimpArgs false
set_option linter.unusedVariables false

theorem parts_any (u : Nat) (hu : u < 18446744073709551616) (w : World) : Calls Try.prog 71 #[.int .u64 (u : Int)] w fun e w' => e = .returned (.tuple #[.int .u64 ((u / 9223372036854775808 : Nat) : Int), .int .i64 ((u / 4503599627370496 % 2048 : Nat) : Int), .int .u64 ((u % 4503599627370496 : Nat) : Int)]) ∧ w = w' := by
  go_enter Try.func71, Try.ntmps71
  go_wp2_with fail
  go_ret3
  refine ⟨?_, rfl⟩
  congr 1
theorem fnan_parts (u : Nat) : fnan u = (decide (u / 4503599627370496 % 2048 = 2047) && decide (0 < u % 4503599627370496)) := by
  unfold fnan fmag
  rw [← Bool.decide_and]
  apply decide_eq_decide.2
  omega
theorem refnan_any (u : Nat) (hu : u < 18446744073709551616) (w : World) : Calls Try.prog 49 #[.int .u64 (u : Int)] w fun e w' => e = .returned (.bool (fnan u)) ∧ w = w' := by
  go_enter Try.func49, Try.ntmps49
  go_wp2_with fail
  refine (parts_any u hu _).mono ?_
  rintro e w1 ⟨rfl, rfl⟩
  have hp := fnan_parts u
  generalize u / 4503599627370496 % 2048 = x at hp ⊢
  generalize u % 4503599627370496 = y at hp ⊢
  have HP := Lib.hid hp
  clear hp
  by_cases hx : x = 2047
  · subst hx
    by_cases hy : 0 < y
    all_goals
      go_wp2_with fail
      go_ret
      exact ⟨ret_bool (by rw [HP.out]; simp; try omega), rfl⟩
  · have hb : ((x : Int) == 2047) = false := by simp; omega
    have Hx := Lib.hid hx
    clear hx
    go_wp2_with fail
    go_ret
    exact ⟨ret_bool (by rw [HP.out]; simp [Hx.out]), rfl⟩
theorem refcanon_any (u : Nat) (hu : u < 18446744073709551616) (w : World) : Calls Try.prog 56 #[.int .u64 (u : Int)] w fun e w' => e = .returned (.int .u64 (canon u : Int)) ∧ w = w' := by
  go_enter Try.func56, Try.ntmps56
  go_wp2_with fail
  refine (refnan_any u hu _).mono ?_
  rintro e w1 ⟨rfl, rfl⟩
  cases hn : fnan u
  all_goals
    have hc : canon u = if fnan u = true then 9221120237041090560 else u := rfl
    rw [hn] at hc
    have Hc := Lib.hid hc
    clear hc hn
    go_wp2_with fail
    go_ret
    rw [Hc.out]
    exact ⟨rfl, rfl⟩
theorem magn_any (u : Nat) (hu : u < 18446744073709551616) (w : World) : Calls Try.prog 89 #[.int .u64 (u : Int)] w fun e w' => e = .returned (.int .u64 ((fmag u : Nat) : Int)) ∧ w = w' := by
  go_enter Try.func89, Try.ntmps89
  go_wp2_with fail
  go_ret
  exact ⟨ret_num (by unfold fmag; omega), rfl⟩

theorem fneg_iff (u : Nat) (hu : u < 18446744073709551616) : fneg u = decide (u / 9223372036854775808 = 1) := by
  unfold fneg
  rw [show u / 9223372036854775808 % 2 = u / 9223372036854775808 from by omega]
  by_cases h : u / 9223372036854775808 = 1 <;> simp [h]
theorem fcmp_ref (a b : Nat) (ha : a < 18446744073709551616) (hb : b < 18446744073709551616) (hna : fnan a = false) (hnb : fnan b = false) :
    fcmp a b = if (fmag a = 0 ∧ fmag b = 0) ∨ a = b then (0, true) else if a / 9223372036854775808 ≠ b / 9223372036854775808 then (((b / 9223372036854775808 : Nat) : Int) - ((a / 9223372036854775808 : Nat) : Int), true)
      else if (fmag a < fmag b ↔ a / 9223372036854775808 = 0) then (-1, true) else (1, true) := by
  unfold fcmp
  rw [if_neg (by simp [hna, hnb])]
  unfold fkey
  rw [fneg_iff a ha, fneg_iff b hb]
  have ea : a = 9223372036854775808 * (a / 9223372036854775808) + fmag a := by unfold fmag; omega
  have eb : b = 9223372036854775808 * (b / 9223372036854775808) + fmag b := by unfold fmag; omega
  have la : fmag a < 9223372036854775808 := by unfold fmag; omega
  have lb : fmag b < 9223372036854775808 := by unfold fmag; omega
  have sa : a / 9223372036854775808 = 0 ∨ a / 9223372036854775808 = 1 := by omega
  have sb : b / 9223372036854775808 = 0 ∨ b / 9223372036854775808 = 1 := by omega
  generalize a / 9223372036854775808 = s at *
  generalize b / 9223372036854775808 = t at *
  generalize fmag a = x at *
  generalize fmag b = y at *
  subst ea eb
  unfold cmp3
  rcases sa with rfl | rfl <;> rcases sb with rfl | rfl <;> simp <;> (repeat' split) <;> first | rfl | (exfalso; omega) | omega | simp_all <;> omega

set_option maxHeartbeats 2000000 in
theorem refcmp_any (a b : Nat) (ha : a < 18446744073709551616) (hb : b < 18446744073709551616) (w : World) : Calls Try.prog 80 #[.int .u64 (a : Int), .int .u64 (b : Int)] w fun e w' => e = .returned (.tuple #[.int .i64 (fcmp a b).1, .bool (fcmp a b).2]) ∧ w = w' := by
  go_enter Try.func80, Try.ntmps80
  go_wp2_with fail
  refine (refnan_any a ha _).mono ?_
  rintro e w1 ⟨rfl, rfl⟩
  cases hna : fnan a
  case true =>
    have hr : fcmp a b = (0, false) := by unfold fcmp; rw [if_pos (.inl hna)]
    have Hr := Lib.hid hr
    clear hr hna
    go_wp2_with fail
    go_ret2
    exact ⟨by rw [Hr.out]; rfl, rfl⟩
  go_wp2_with fail
  refine (refnan_any b hb _).mono ?_
  rintro e w1 ⟨rfl, rfl⟩
  cases hnb : fnan b
  case true =>
    have hr : fcmp a b = (0, false) := by unfold fcmp; rw [if_pos (.inr hnb)]
    have Hr := Lib.hid hr
    clear hr hna hnb
    go_wp2_with fail
    go_ret2
    exact ⟨by rw [Hr.out]; rfl, rfl⟩
  have hr := fcmp_ref a b ha hb hna hnb
  have Hr := Lib.hid hr
  have hx : fmag a < 9223372036854775808 := by unfold fmag; omega
  have hy : fmag b < 9223372036854775808 := by unfold fmag; omega
  clear hr hna hnb
  go_wp2_with fail
  refine (magn_any a ha _).mono ?_
  rintro e w1 ⟨rfl, rfl⟩
  go_wp2_with fail
  refine (magn_any b hb _).mono ?_
  rintro e w1 ⟨rfl, rfl⟩
  generalize fmag a = x at Hr hx ⊢
  generalize fmag b = y at Hr hy ⊢
  by_cases h0 : (x = 0 ∧ y = 0) ∨ a = b
  · have hr2 : fcmp a b = (0, true) := by rw [Hr.out, if_pos h0]
    have Hr2 := Lib.hid hr2
    clear hr2 Hr
    by_cases hx0 : x = 0
    · have e1 : ((x : Int) == 0) = true := by simp [hx0]
      by_cases hy0 : y = 0
      · have e2 : ((y : Int) == 0) = true := by simp [hy0]
        clear h0 hx0 hy0
        go_wp2_with fail
        go_ret2
        exact ⟨by rw [Hr2.out]; rfl, rfl⟩
      · have e2 : ((y : Int) == 0) = false := by simp [hy0]
        have e3 : ((a : Int) == (b : Int)) = true := by simp; omega
        clear h0 hx0 hy0
        go_wp2_with fail
        go_ret2
        exact ⟨by rw [Hr2.out]; rfl, rfl⟩
    · have e1 : ((x : Int) == 0) = false := by simp [hx0]
      have e3 : ((a : Int) == (b : Int)) = true := by simp; omega
      clear h0 hx0
      go_wp2_with fail
      go_ret2
      exact ⟨by rw [Hr2.out]; rfl, rfl⟩
  have e3 : ((a : Int) == (b : Int)) = false := by simp; omega
  have hr3 := Hr.out
  rw [if_neg h0] at hr3
  have Hr3 := Lib.hid hr3
  have hs : a / 9223372036854775808 = 0 ∨ a / 9223372036854775808 = 1 := by omega
  have ht : b / 9223372036854775808 = 0 ∨ b / 9223372036854775808 = 1 := by omega
  have es : (a : Int) / 9223372036854775808 = ((a / 9223372036854775808 : Nat) : Int) := by omega
  have et : (b : Int) / 9223372036854775808 = ((b / 9223372036854775808 : Nat) : Int) := by omega
  clear hr3 Hr
  have e4 : ∃ t12 : Bool, (((x : Int) == 0) = true ∧ t12 = false ∧ ((y : Int) == 0) = false) ∨ ((x : Int) == 0) = false := by
    by_cases hx0 : x = 0
    · exact ⟨false, .inl ⟨by simp [hx0], rfl, by simp; omega⟩⟩
    · exact ⟨false, .inr (by simp [hx0])⟩
  clear h0
  obtain ⟨_, ⟨e4, -, e5⟩ | e4⟩ := e4
  all_goals
    generalize a / 9223372036854775808 = p at hs es Hr3
    generalize b / 9223372036854775808 = q at ht et Hr3
    rcases hs with rfl | rfl
    all_goals
      rcases ht with rfl | rfl
      all_goals
        by_cases hxy : x < y
        all_goals
          go_wp2_with fail
          go_ret2
          exact ⟨by rw [Hr3.out]; simp [hxy], rfl⟩

theorem canon_lt (u : Nat) (hu : u < 18446744073709551616) : canon u < 18446744073709551616 := by unfold canon; split <;> omega
theorem canon_nan (u : Nat) (h : fnan (canon u) = true) : canon u = 9221120237041090560 := by
  unfold canon at h ⊢
  split
  · rfl
  · rename_i hn
    rw [if_neg hn] at h
    exact absurd h hn
theorem forder_ref (a b : Nat) (ha : a < 18446744073709551616) (hb : b < 18446744073709551616) :
    forder a b = if canon a = canon b then 0 else if fnan (canon a) = true then 1 else if fnan (canon b) = true then -1
      else if (fcmp (canon a) (canon b)).1 ≠ 0 then (fcmp (canon a) (canon b)).1 else if canon b < canon a then -1 else 1 := by
  unfold forder frank
  have hA := canon_lt a ha
  have hB := canon_lt b hb
  have nA := canon_nan a
  have nB := canon_nan b
  generalize canon a = A at *
  generalize canon b = B at *
  by_cases he : A = B
  · subst he
    rw [if_pos rfl, cmp3_eq]
  rw [if_neg he]
  by_cases h1 : fnan A = true
  · rw [if_pos h1]
    have e := nA h1
    have hb2 : ¬ fnan B = true := fun h => he (e.trans (nB h).symm)
    have hb3 : fmag B ≤ 9218868437227405312 := by unfold fnan at hb2; simp at hb2; exact hb2
    unfold fmag at hb3
    subst e
    refine cmp3_gt ?_
    split <;> split <;> omega
  rw [if_neg h1]
  have ha3 : fmag A ≤ 9218868437227405312 := by unfold fnan at h1; simp at h1; exact h1
  by_cases h2 : fnan B = true
  · rw [if_pos h2]
    have e := nB h2
    unfold fmag at ha3
    subst e
    refine cmp3_lt ?_
    split <;> split <;> omega
  rw [if_neg h2]
  have hc : fcmp A B = (cmp3 (fkey A) (fkey B), true) := by unfold fcmp; rw [if_neg (by simp [h1, h2])]
  rw [hc]
  simp only
  unfold fkey
  rw [fneg_iff A hA, fneg_iff B hB]
  have eA : A = 9223372036854775808 * (A / 9223372036854775808) + fmag A := by unfold fmag; omega
  have eB : B = 9223372036854775808 * (B / 9223372036854775808) + fmag B := by unfold fmag; omega
  have lA : fmag A < 9223372036854775808 := by unfold fmag; omega
  have lB : fmag B < 9223372036854775808 := by unfold fmag; omega
  have sA : A / 9223372036854775808 = 0 ∨ A / 9223372036854775808 = 1 := by omega
  have sB : B / 9223372036854775808 = 0 ∨ B / 9223372036854775808 = 1 := by omega
  clear hc nA nB ha3 h1 h2 ha hb
  generalize A / 9223372036854775808 = s at *
  generalize B / 9223372036854775808 = t at *
  generalize fmag A = x at *
  generalize fmag B = y at *
  subst eA eB
  unfold cmp3
  rcases sA with rfl | rfl <;> rcases sB with rfl | rfl <;> simp <;> (repeat' split) <;> first | rfl | (exfalso; omega) | omega | simp_all <;> omega

set_option maxHeartbeats 2000000 in
theorem refford_any (a b : Nat) (ha : a < 18446744073709551616) (hb : b < 18446744073709551616) (w : World) : Calls Try.prog 74 #[.int .u64 (a : Int), .int .u64 (b : Int)] w fun e w' => e = .returned (.int .i64 (forder a b)) ∧ w = w' := by
  have hr := forder_ref a b ha hb
  have Hr := Lib.hid hr
  have hA := canon_lt a ha
  have hB := canon_lt b hb
  have hca := refcanon_any a ha
  have hcb := refcanon_any b hb
  clear hr
  go_enter Try.func74, Try.ntmps74
  go_wp2_with fail
  refine (hca _).mono ?_
  rintro e w1 ⟨rfl, rfl⟩
  go_wp2_with fail
  refine (hcb _).mono ?_
  rintro e w1 ⟨rfl, rfl⟩
  clear hca hcb
  generalize canon a = A at Hr hA ⊢
  generalize canon b = B at Hr hB ⊢
  by_cases he : A = B
  · have e1 : ((A : Int) == (B : Int)) = true := by simp [he]
    have hr2 : forder a b = 0 := by rw [Hr.out, if_pos he]
    have Hr2 := Lib.hid hr2
    clear he hr2 Hr
    go_wp2_with fail
    go_ret
    exact ⟨ret_num Hr2.out.symm, rfl⟩
  have e1 : ((A : Int) == (B : Int)) = false := by simp; omega
  have hr1 := Hr.out
  rw [if_neg he] at hr1
  have Hr1 := Lib.hid hr1
  have He := Lib.hid he
  clear hr1 Hr he
  go_wp2_with fail
  refine (refnan_any A hA _).mono ?_
  rintro e w1 ⟨rfl, rfl⟩
  cases hnA : fnan A
  case true =>
    have hr2 : forder a b = 1 := by rw [Hr1.out, if_pos hnA]
    have Hr2 := Lib.hid hr2
    clear hr2 hnA Hr1
    go_wp2_with fail
    go_ret
    exact ⟨ret_num Hr2.out.symm, rfl⟩
  go_wp2_with fail
  refine (refnan_any B hB _).mono ?_
  rintro e w1 ⟨rfl, rfl⟩
  cases hnB : fnan B
  case true =>
    have hr2 : forder a b = -1 := by rw [Hr1.out, if_neg (by simp [hnA]), if_pos hnB]
    have Hr2 := Lib.hid hr2
    clear hr2 hnA hnB Hr1
    go_wp2_with fail
    go_ret
    exact ⟨ret_num Hr2.out.symm, rfl⟩
  have hr2 := Hr1.out
  rw [if_neg (by simp [hnA]), if_neg (by simp [hnB])] at hr2
  have Hr2 := Lib.hid hr2
  clear hr2 hnA hnB Hr1
  go_wp2_with fail
  refine (refcmp_any A B hA hB _).mono ?_
  rintro e w1 ⟨rfl, rfl⟩
  generalize (fcmp A B).1 = c at Hr2 ⊢
  generalize (fcmp A B).2 = d
  by_cases hc : c = 0
  · have e2 : (c != 0) = false := by simp [hc]
    by_cases hlt : B < A
    · have hr3 : forder a b = -1 := by rw [Hr2.out, if_neg (by simp [hc]), if_pos hlt]
      have Hr3 := Lib.hid hr3
      clear hr3 hc
      go_wp2_with fail
      go_ret
      exact ⟨ret_num Hr3.out.symm, rfl⟩
    · have hr3 : forder a b = 1 := by rw [Hr2.out, if_neg (by simp [hc]), if_neg hlt]
      have Hr3 := Lib.hid hr3
      clear hr3 hc
      go_wp2_with fail
      go_ret
      exact ⟨ret_num Hr3.out.symm, rfl⟩
  · have e2 : (c != 0) = true := by simp [hc]
    have hr3 : forder a b = c := by rw [Hr2.out, if_pos hc]
    have Hr3 := Lib.hid hr3
    clear hr3 hc
    go_wp2_with fail
    go_ret
    exact ⟨ret_num Hr3.out.symm, rfl⟩

theorem refnum_any (a b : Int) (w : World) : Calls Try.prog 73 #[.int .i64 a, .int .i64 b] w fun e w' => e = .returned (.int .i64 (cmp3 a b)) ∧ w = w' := by
  rcases Int.lt_trichotomy a b with h | h | h
  · rw [cmp3_lt h]
    go_enter Try.func73, Try.ntmps73
    go_wp2_with fail
    go_ret
    exact ⟨rfl, rfl⟩
  · subst h
    rw [cmp3_eq]
    go_enter Try.func73, Try.ntmps73
    go_wp2_with fail
    go_ret
    exact ⟨rfl, rfl⟩
  · rw [cmp3_gt h]
    go_enter Try.func73, Try.ntmps73
    go_wp2_with fail
    go_ret
    exact ⟨rfl, rfl⟩
theorem refnot_any (t : Int) (w : World) : Calls Try.prog 28 #[.int .i64 t] w fun e w' => e = .returned (.int .i64 (if t = 0 then 1 else if t = 1 then 0 else 2)) ∧ w = w' := by
  by_cases h0 : t = 0
  · subst h0
    go_enter Try.func28, Try.ntmps28
    go_wp2_with fail
    go_ret
    exact ⟨rfl, rfl⟩
  by_cases h1 : t = 1
  · subst h1
    go_enter Try.func28, Try.ntmps28
    go_wp2_with fail
    go_ret
    exact ⟨rfl, rfl⟩
  · have e0 : (t == 0) = false := by simp [h0]
    have e1 : (t == 1) = false := by simp [h1]
    rw [if_neg h0, if_neg h1]
    clear h0 h1
    go_enter Try.func28, Try.ntmps28
    go_wp2_with fail
    go_ret
    exact ⟨rfl, rfl⟩
end Go.Proofs.Ytmhmpnbcjcmnnaa
