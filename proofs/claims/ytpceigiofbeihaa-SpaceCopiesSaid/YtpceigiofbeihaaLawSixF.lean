/- The law of space: what comes first; small facts on rows of truths. -/
import Derived.Test.YtpceigiofbeihaaSpace
namespace Go.Proofs.Ytpceigiofbeihaa
open Go.RowKit
set_option linter.unusedSimpArgs false
set_option linter.unusedVariables false

theorem find_lt (T : List Bool) : T.findIdx (· == false) < T.length ↔ 0 < T.count false := by
  rw [List.findIdx_lt_length, List.count_pos_iff]
  constructor
  · rintro ⟨x, hx, h⟩
    have : x = false := by simpa using h
    exact this ▸ hx
  · intro h
    exact ⟨false, h, rfl⟩
theorem find_at (T : List Bool) (h : T.findIdx (· == false) < T.length) : T[T.findIdx (· == false)]? = some false := by
  rw [List.getElem?_eq_getElem h]
  have := List.findIdx_getElem (xs := T) (p := (· == false)) (w := h)
  simpa using this
theorem count_set (T : List Bool) : ∀ (i : Nat) (b : Bool), T[i]? = some b → (T.set i (!b)).count b + 1 = T.count b := by
  induction T with
  | nil => intro i b h; simp at h
  | cons x t ih =>
    intro i b h
    cases i with
    | zero =>
      simp at h
      subst h
      cases x <;> simp
    | succ i =>
      have := ih i b (by simpa using h)
      simp only [List.set_cons_succ, List.count_cons]
      omega
theorem count_set' (T : List Bool) : ∀ (i : Nat) (b : Bool), T[i]? = some b → (T.set i (!b)).count (!b) = T.count (!b) + 1 := by
  induction T with
  | nil => intro i b h; simp at h
  | cons x t ih =>
    intro i b h
    cases i with
    | zero =>
      simp at h
      subst h
      cases x <;> simp
    | succ i =>
      have := ih i b (by simpa using h)
      simp only [List.set_cons_succ, List.count_cons]
      omega
theorem newT_find (n j : Nat) (h : j < n) : (newT n j).findIdx (· == false) = j := by
  unfold newT
  rw [List.findIdx_append]
  have h1 : (List.replicate j true).findIdx (· == false) = (List.replicate j true).length := List.findIdx_eq_length_of_false (by intro x hx; simp [(List.mem_replicate.1 hx).2])
  rw [h1, if_neg (Nat.lt_irrefl _), List.length_replicate]
  have : n - j = (n - j - 1) + 1 := by omega
  rw [this, List.replicate_succ, List.findIdx_cons]
  simp
theorem newT_count (n j : Nat) : (newT n j).count false = n - j := by
  unfold newT
  rw [List.count_append, List.count_replicate, List.count_replicate]
  simp

theorem first06_any (w : World) :
    Calls Try.prog 17 #[] w fun e w' => e = .returned (.bool true) ∧ Keeps No w w' := by
  go_enter Try.func17, Try.ntmps17
  go_wp2_with fail
  refine (new_ok 4 2 _ (by omega) (by omega) (by omega)).mono ?_
  rintro e w1 ⟨b, tb, rfl, hS1, hb, htb, hb1, htb1, hk1⟩
  have hS1' : SM w1 b tb [true, true, false, false] 2 := hS1
  clear hS1
  go_wp2_with fail
  refine (take_some b tb _ 2 _ hS1' (by decide)).mono ?_
  rw [show List.findIdx (· == false) [true, true, false, false] = 2 from by decide]
  rintro e w2 ⟨rfl, hS2, hk2⟩
  have hS2' : SM w2 b tb [true, true, true, false] 2 := hS2
  clear hS2 hS1'
  go_wp2_with fail
  refine (take_some b tb _ 2 _ hS2' (by decide)).mono ?_
  rw [show List.findIdx (· == false) [true, true, true, false] = 3 from by decide]
  rintro e w3 ⟨rfl, hS3, hk3⟩
  have hS3' : SM w3 b tb [true, true, true, true] 2 := hS3
  clear hS3 hS2'
  go_wp2_with fail
  refine (take_none b tb _ 2 _ hS3' (by decide)).mono ?_
  rintro e w4 ⟨rfl, rfl⟩
  go_wp2_with fail
  refine (give_yes b tb _ 2 _ hS3' 2 (Nat.le_refl _) rfl).mono ?_
  rintro e w5 ⟨rfl, hS5, hk5⟩
  have hS5' : SM w5 b tb [true, true, false, true] 2 := hS5
  clear hS5 hS3'
  go_wp2_with fail
  refine (give_no b tb _ 2 _ hS5' 1 (.inl (by decide))).mono ?_
  rintro e w6 ⟨rfl, rfl⟩
  go_wp2_with fail
  refine (free_any b tb _ 2 _ hS5').mono ?_
  rw [show List.count false [true, true, false, true] = 1 from by decide]
  rintro e w6 ⟨rfl, rfl⟩
  go_wp2_with fail
  refine (taken_any b tb _ 2 _ hS5' 0).mono ?_
  rw [show takenAt [true, true, false, true] 0 = true from by decide]
  rintro e w6 ⟨rfl, rfl⟩
  go_wp2_with fail
  go_ret
  have z1 := hk1.size
  exact ⟨rfl, ((hk1.trans hk2 (fun k hk h => by omega)).trans hk3 (fun k hk h => by omega)).trans hk5 (fun k hk h => by omega)⟩

end Go.Proofs.Ytpceigiofbeihaa
