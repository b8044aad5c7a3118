/- The walks of the statements on runs: first, RunsPuts, RunsGets, RunsShort. -/
import Derived.Test.YthbipcjgpocpaaaGreatRuns
import Derived.Test.YthbipcjgpocpaaaGreatRefRunsG
import Derived.Lib.SlBytesConst
import Derived.Test.YthbipcjgpocpaaaGreatRowKit
namespace Go.Proofs.YthbipcjgpocpaaaGreat
open Go.RowKit
set_option linter.unusedSimpArgs false
set_option linter.unusedVariables false

theorem get_yes : rgetR [2, 14, 3, 1, 1] 4 = some [7, 7, 7, -1] := by decide
theorem get_no : rgetR [2, 14, 3, 14, 1] 4 = none := by decide
theorem put_yes : putRuns [7, 7, 7, -1] = [2, 14, 3, 1, 1] := (getRuns_sound (b := [2, 14, 3, 1, 1]) (n := 4) (l := [7, 7, 7, -1]) get_yes).1

theorem RGetPost.outOk {r : Option (List Int)} {l : List Int} {w w' : World} {e : Ending} (h : RGetPost r w e w') (hr : r = some l) : ∃ a c, e = .returned (.tuple #[.slice a l.length c, .bool true]) ∧ Sl w' a l.length c (l.map intV) ∧ Keeps No w w' := by
  subst hr
  obtain ⟨v, rfl, ho, hk⟩ := h
  obtain ⟨a, c, rfl, hs, _⟩ := Sl.ofOwn ho
  exact ⟨a, c, rfl, hs, hk⟩
theorem RGetPost.outNo {r : Option (List Int)} {w w' : World} {e : Ending} (h : RGetPost r w e w') (hr : r = none) : e = .returned (.tuple #[.slice none 0 0, .bool false]) ∧ Keeps No w w' := by
  subst hr; exact h

theorem wf_nat (n : Nat) (h : n ≤ 9223372036854775807) : (Lit.int .i64 (n : Int)).wf = true := by
  show (decide (IntKind.i64.min ≤ (n : Int)) && decide ((n : Int) ≤ IntKind.i64.max)) = true
  have e1 : IntKind.i64.min = -9223372036854775808 := by decide
  have e2 : IntKind.i64.max = 9223372036854775807 := by decide
  rw [e1, e2]
  simp
  omega
theorem wf_seven : ∀ x ∈ ([7, 7, 7, -1] : List Int), (Lit.int .i64 x).wf = true := by decide

theorem rget_put (L : List Int) (n : Nat) (hn : L.length = n) (hw : ∀ x ∈ L, (Lit.int .i64 x).wf = true) : rgetR (putRuns L) (n : Int) = if n ≤ 256 then some L else none := by
  unfold rgetR
  by_cases h : n ≤ 256
  · rw [if_neg (by omega), if_pos h]
    exact getRuns_complete L n hn (by omega) (fun x hx => fold_lt (wf_i64_iff (hw x hx)))
  · rw [if_pos (by omega), if_neg h]

theorem putRuns_length (L : List Int) (hw : ∀ x ∈ L, (Lit.int .i64 x).wf = true) (hn : L.length ≤ 1000) : (putRuns L).length ≤ 10 + 20 * (runsOf L).length := by
  have hc := runsOf_length L
  have h1 := nat7_len64 (runsOf L).length (by omega)
  have hf : ∀ R : List (Int × Nat), (∀ r ∈ R, fold r.1 < 18446744073709551616 ∧ r.2 ≤ 1000) → (R.flatMap runB).length ≤ 20 * R.length := by
    intro R
    induction R with
    | nil => intro _; simp
    | cons r t ih =>
      intro h
      have := ih (fun x hx => h x (by simp [hx]))
      have h2 := h r (by simp)
      have h3 := nat7_len64 (fold r.1) h2.1
      have h4 := nat7_len64 r.2 (by omega)
      have h5 : (runB r).length = (nat7 (fold r.1)).length + (nat7 r.2).length := by simp [runB]
      rw [List.flatMap_cons, List.length_append, List.length_cons]
      omega
  have := hf (runsOf L) (fun r hr => ⟨fold_lt (wf_i64_iff (hw _ (runsOf_mem L r hr))), by
    have h : ∀ R : List (Int × Nat), ∀ r ∈ R, r.2 ≤ (expand R).length := by
      intro R
      induction R with
      | nil => intro r hr; simp at hr
      | cons s t ih =>
        intro r hr
        rw [expand_length_cons]
        rcases List.mem_cons.1 hr with rfl | hr
        · omega
        · have := ih r hr; omega
    have := h _ r hr
    rw [expand_runsOf] at this
    omega⟩)
  unfold putRuns
  rw [List.length_append]
  omega

theorem runs_le (l : List Int) : 2 * (runsOf l).length + 1 ≤ (putRuns l).length := by
  have h1 := (nat7_len (runsOf l).length (runsOf l).length (Nat.lt_of_lt_of_le (Nat.lt_pow_self (by decide)) (Nat.pow_le_pow_right (by decide) (by omega)))).2
  have hp : ∀ v, 0 < (nat7 v).length := fun v => (nat7_len v v (Nat.lt_of_lt_of_le (Nat.lt_pow_self (by decide)) (Nat.pow_le_pow_right (by decide) (by omega)))).2
  have hf : ∀ R : List (Int × Nat), 2 * R.length ≤ (R.flatMap runB).length := by
    intro R
    induction R with
    | nil => simp
    | cons r t ih =>
      have h3 := hp (fold r.1)
      have h4 := hp r.2
      have h5 : (runB r).length = (nat7 (fold r.1)).length + (nat7 r.2).length := by simp [runB]
      rw [List.flatMap_cons, List.length_append, List.length_cons]
      omega
  have := hf (runsOf l)
  unfold putRuns
  rw [List.length_append]
  omega
theorem addRun_len (R : List (Int × Nat)) (v : Int) : R.length ≤ (addRun R v).length ∧ ((∀ y, R.getLast? = some y → y.1 ≠ v) → (addRun R v).length = R.length + 1) := by
  constructor
  · unfold addRun
    split
    · rename_i h
      have : R = [] := by simpa using h
      subst this
      simp
    · rename_i u k h
      obtain ⟨ys, rfl⟩ := List.getLast?_eq_some_iff.1 h
      split <;> simp
  · intro h
    rw [addRun_other R v h]
    simp

theorem runs_row (v : Int) (k : Nat) : runsOf (List.replicate (k + 1) v) = [(v, k + 1)] := by
  have := runsOf_rep [] v (k + 1) (by omega) (fun y hy => by simp [runsOf] at hy)
  simpa [runsOf] using this
theorem row_len (v : Int) (hv : (Lit.int .i64 v).wf = true) (k : Nat) (hk : k < 256) : (putRuns (List.replicate (k + 1) v)).length ≤ 13 := by
  have h1 := nat7_len64 (fold v) (fold_lt (wf_i64_iff hv))
  have h2 := (nat7_len 1 (k + 1) (by have : (128 : Nat) ^ 2 = 16384 := by decide
                                     omega)).1
  have h3 : (nat7 1).length = 1 := by rw [nat7_low (by decide)]; rfl
  unfold putRuns
  rw [runs_row]
  simp [runB]
  omega

theorem i64_map (l : List {n : Int // (Lit.int .i64 n).wf = true}) : l.map i64V = (l.map (·.1)).map intV := by rw [List.map_map]; rfl
theorem i64_wf (l : List {n : Int // (Lit.int .i64 n).wf = true}) : ∀ x ∈ l.map (·.1), (Lit.int .i64 x).wf = true := by
  intro x hx; obtain ⟨y, _, rfl⟩ := List.mem_map.1 hx; exact y.2
end Go.Proofs.YthbipcjgpocpaaaGreat
