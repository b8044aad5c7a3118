/- Runs of like numbers, as lists: what Put writes, what Get reads. -/
import Derived.Test.YthbipcjgpocpaaaGreatPackT
namespace Go.Proofs.YthbipcjgpocpaaaGreat
set_option linter.unusedSimpArgs false
set_option linter.unusedVariables false

/-- A natural number that was read was written just so. -/
theorem natGo_sound (xs : List UInt8) : ∀ j m v r, natGo j m xs = some (v, r) → ∃ q, v = m + q * 2 ^ (7 * j) ∧ xs = nat7 q ++ r ∧ (0 < j → 0 < q) := by
  induction xs with
  | nil => intro j m v r h; simp [natGo] at h
  | cons c t ih =>
    intro j m v r h
    have hc := c.toNat_lt
    unfold natGo at h
    split at h
    · cases h
    rename_i hn
    split at h
    · rename_i h128
      injection h with h; injection h with h1 h2
      subst h1 h2
      have e : c.toNat % 128 = c.toNat := Nat.mod_eq_of_lt h128
      refine ⟨c.toNat, by rw [e], ?_, fun hj => by omega⟩
      rw [nat7_low h128]
      simp
    · rename_i h128
      obtain ⟨q, hv, ht, hq⟩ := ih (j + 1) _ v r h
      have hq' := hq (by omega)
      refine ⟨c.toNat % 128 + 128 * q, ?_, ?_, fun _ => by omega⟩
      · rw [hv, show 7 * (j + 1) = 7 * j + 7 from by omega, Nat.pow_add, Nat.add_mul]
        have : (2 : Nat) ^ 7 = 128 := by decide
        rw [this, show 128 * q * 2 ^ (7 * j) = q * (2 ^ (7 * j) * 128) from by rw [Nat.mul_comm 128 q, Nat.mul_assoc, Nat.mul_comm 128]]
        omega
      · have h1 : (c.toNat % 128 + 128 * q) % 128 = c.toNat % 128 := by omega
        have h2 : (c.toNat % 128 + 128 * q) / 128 = q := by omega
        rw [nat7_step (by omega), h1, h2, ht]
        have h3 : 128 + c.toNat % 128 = c.toNat := by omega
        rw [h3]
        simp
theorem natGo_nat {xs : List UInt8} {v : Nat} {r : List UInt8} (h : natGo 0 0 xs = some (v, r)) : xs = nat7 v ++ r := by
  obtain ⟨q, hv, hx, _⟩ := natGo_sound xs 0 0 v r h
  have : v = q := by simpa using hv
  rw [this]; exact hx

def addRun (all : List (Int × Nat)) (v : Int) : List (Int × Nat) :=
  match all.getLast? with
  | none => [(v, 1)]
  | some (u, n) => if u = v then all.dropLast ++ [(u, n + 1)] else all ++ [(v, 1)]
def runsOf (l : List Int) : List (Int × Nat) := l.foldl addRun []
def runB (r : Int × Nat) : List UInt8 := nat7 (fold r.1) ++ nat7 r.2
def putRuns (l : List Int) : List UInt8 := nat7 (runsOf l).length ++ (runsOf l).flatMap runB
def expand (R : List (Int × Nat)) : List Int := R.flatMap fun r => List.replicate r.2 r.1

theorem expand_addRun (R : List (Int × Nat)) (v : Int) : expand (addRun R v) = expand R ++ [v] := by
  unfold addRun
  cases h : R.getLast? with
  | none =>
    have : R = [] := by simpa using h
    subst this
    simp [expand]
  | some x =>
    obtain ⟨u, n⟩ := x
    obtain ⟨ys, rfl⟩ := List.getLast?_eq_some_iff.1 h
    simp only
    split
    · rename_i e
      subst e
      simp [expand, List.replicate_succ']
    · simp [expand]
theorem expand_foldl (l : List Int) : ∀ R, expand (l.foldl addRun R) = expand R ++ l := by
  induction l with
  | nil => intro R; simp
  | cons v t ih => intro R; rw [List.foldl_cons, ih, expand_addRun, List.append_assoc]; rfl
theorem expand_runsOf (l : List Int) : expand (runsOf l) = l := by
  unfold runsOf
  rw [expand_foldl]; simp [expand]

/-- Each run holds something; neighbours differ. -/
def Good : List (Int × Nat) → Prop
  | [] => True
  | [r] => 0 < r.2
  | r :: s :: t => 0 < r.2 ∧ r.1 ≠ s.1 ∧ Good (s :: t)
theorem Good.tail {r : Int × Nat} {t : List (Int × Nat)} (h : Good (r :: t)) : Good t := by
  cases t with
  | nil => trivial
  | cons s t => exact h.2.2
theorem Good.pos {r : Int × Nat} {t : List (Int × Nat)} (h : Good (r :: t)) : 0 < r.2 := by
  cases t with
  | nil => exact h
  | cons s t => exact h.1
theorem good_snoc (R : List (Int × Nat)) (u : Int) (n : Nat) (hn : 0 < n) : ∀ (h : Good R), (∀ x, R.getLast? = some x → x.1 ≠ u) → Good (R ++ [(u, n)]) := by
  induction R with
  | nil => intro _ _; exact hn
  | cons r t ih =>
    intro h hx
    cases t with
    | nil => exact ⟨h, hx r rfl, hn⟩
    | cons s t => exact ⟨h.1, h.2.1, ih h.2.2 (fun x hx' => hx x (by rw [List.getLast?_cons_cons]; exact hx'))⟩
theorem addRun_same (R : List (Int × Nat)) (u : Int) (n : Nat) : addRun (R ++ [(u, n)]) u = R ++ [(u, n + 1)] := by simp [addRun]
theorem addRun_other (R : List (Int × Nat)) (u : Int) (h : ∀ x, R.getLast? = some x → x.1 ≠ u) : addRun R u = R ++ [(u, 1)] := by
  unfold addRun
  cases hl : R.getLast? with
  | none =>
    have : R = [] := by simpa using hl
    subst this; rfl
  | some x =>
    obtain ⟨y, m⟩ := x
    simp only
    rw [if_neg (h _ hl)]
theorem foldl_replicate (R : List (Int × Nat)) (u : Int) (n : Nat) : ∀ k, (List.replicate k u).foldl addRun (R ++ [(u, n)]) = R ++ [(u, n + k)] := by
  intro k
  induction k generalizing n with
  | zero => rfl
  | succ k ih => rw [List.replicate_succ, List.foldl_cons, addRun_same, ih]; congr 3; omega
theorem foldl_good (T : List (Int × Nat)) : ∀ R, Good T → (∀ x y, R.getLast? = some x → T.head? = some y → x.1 ≠ y.1) → (expand T).foldl addRun R = R ++ T := by
  induction T with
  | nil => intro R _ _; simp [expand]
  | cons r t ih =>
    intro R h hx
    obtain ⟨u, n⟩ := r
    have hp := h.pos
    obtain ⟨k, rfl⟩ : ∃ k, n = k + 1 := ⟨n - 1, by simp at hp; omega⟩
    have e : expand ((u, k + 1) :: t) = u :: (List.replicate k u ++ expand t) := by simp [expand, List.replicate_succ]
    rw [e, List.foldl_cons, addRun_other R u (fun x hx' => hx x _ hx' rfl), List.foldl_append, foldl_replicate, ih _ h.tail]
    · rw [List.append_assoc, Nat.add_comm 1 k]; rfl
    · intro x y hx' hy
      simp at hx'
      subst hx'
      cases t with
      | nil => simp at hy
      | cons s t => simp at hy; subst hy; exact h.2.1
theorem runsOf_expand (R : List (Int × Nat)) (h : Good R) : runsOf (expand R) = R := by
  unfold runsOf
  rw [foldl_good R [] h (fun x y hx => by simp at hx)]
  rfl

theorem good_addRun (R : List (Int × Nat)) (v : Int) (h : Good R) : Good (addRun R v) := by
  unfold addRun
  cases hl : R.getLast? with
  | none => exact Nat.one_pos
  | some x =>
    obtain ⟨u, n⟩ := x
    obtain ⟨ys, rfl⟩ := List.getLast?_eq_some_iff.1 hl
    simp only
    split
    · rename_i e
      rw [List.dropLast_concat]
      clear hl
      induction ys with
      | nil => exact Nat.succ_pos _
      | cons r t ih =>
        cases t with
        | nil => exact ⟨h.1, h.2.1, Nat.succ_pos _⟩
        | cons s t => exact ⟨h.1, h.2.1, ih h.2.2⟩
    · rename_i e
      exact good_snoc _ v 1 Nat.one_pos h (fun x hx => by rw [hl] at hx; injection hx with hx; rw [← hx]; exact e)
theorem good_foldl (l : List Int) : ∀ R, Good R → Good (l.foldl addRun R) := by
  induction l with
  | nil => intro R h; exact h
  | cons v t ih => intro R h; exact ih _ (good_addRun R v h)
theorem good_runsOf (l : List Int) : Good (runsOf l) := good_foldl l [] trivial

/-- Get's loop: c runs more; out so far. -/
def getGo (n : Nat) : Nat → List Int → List UInt8 → Option (List Int × List UInt8)
  | 0, out, b => some (out, b)
  | c + 1, out, b =>
    match natGo 0 0 b with
    | none => none
    | some (u, b1) =>
      match natGo 0 0 b1 with
      | none => none
      | some (k, b2) => if 0 < k ∧ k ≤ n - out.length ∧ out.getLast? ≠ some (unfoldN u) then getGo n c (out ++ List.replicate k (unfoldN u)) b2 else none
def getRuns (b : List UInt8) (n : Nat) : Option (List Int) :=
  match natGo 0 0 b with
  | none => none
  | some (c, b1) => match getGo n c [] b1 with
    | none => none
    | some (out, rest) => if rest = [] ∧ out.length = n then some out else none

theorem fold_unfold (u : Nat) : fold (unfoldN u) = u := by unfold fold unfoldN; split <;> split <;> omega
theorem last_replicate (out : List Int) (k : Nat) (v : Int) (hk : 0 < k) : (out ++ List.replicate k v).getLast? = some v := by
  obtain ⟨m, rfl⟩ : ∃ m, k = m + 1 := ⟨k - 1, by omega⟩
  rw [List.replicate_succ', ← List.append_assoc, List.getLast?_concat]
theorem getGo_sound (n : Nat) : ∀ c out b o r, getGo n c out b = some (o, r) → ∃ R, R.length = c ∧ o = out ++ expand R ∧ b = R.flatMap runB ++ r ∧ Good R ∧ (∀ y, R.head? = some y → out.getLast? ≠ some y.1) := by
  intro c
  induction c with
  | zero =>
    intro out b o r h
    simp only [getGo, Option.some.injEq, Prod.mk.injEq] at h
    obtain ⟨rfl, rfl⟩ := h
    exact ⟨[], rfl, by simp [expand], rfl, trivial, fun y hy => by simp at hy⟩
  | succ c ih =>
    intro out b o r h
    unfold getGo at h
    cases h1 : natGo 0 0 b with
    | none => rw [h1] at h; cases h
    | some x1 =>
      obtain ⟨u, b1⟩ := x1
      rw [h1] at h
      simp only at h
      cases h2 : natGo 0 0 b1 with
      | none => rw [h2] at h; cases h
      | some x2 =>
        obtain ⟨k, b2⟩ := x2
        rw [h2] at h
        simp only at h
        split at h
        · rename_i hc
          obtain ⟨hk, hkn, hlast⟩ := hc
          obtain ⟨R, q1, q2, q3, q4, q5⟩ := ih _ _ _ _ h
          refine ⟨(unfoldN u, k) :: R, by simp [q1], ?_, ?_, ?_, fun y hy => ?_⟩
          · rw [q2]; simp [expand]
          · rw [natGo_nat h1, natGo_nat h2, q3]
            simp [runB, fold_unfold]
          · cases R with
            | nil => exact hk
            | cons s t =>
              refine ⟨hk, fun e => ?_, q4⟩
              have := q5 s rfl
              rw [last_replicate _ _ _ hk] at this
              exact this (congrArg some e)
          · simp at hy
            subst hy
            exact hlast
        · cases h
theorem getGo_mem (n : Nat) : ∀ c out b o r, getGo n c out b = some (o, r) → (∀ x ∈ out, fold x < 18446744073709551616) → ∀ x ∈ o, fold x < 18446744073709551616 := by
  intro c
  induction c with
  | zero =>
    intro out b o r h hx
    simp only [getGo, Option.some.injEq, Prod.mk.injEq] at h
    obtain ⟨rfl, rfl⟩ := h
    exact hx
  | succ c ih =>
    intro out b o r h hx
    unfold getGo at h
    cases h1 : natGo 0 0 b with
    | none => rw [h1] at h; cases h
    | some x1 =>
      obtain ⟨u, b1⟩ := x1
      rw [h1] at h
      simp only at h
      cases h2 : natGo 0 0 b1 with
      | none => rw [h2] at h; cases h
      | some x2 =>
        obtain ⟨k, b2⟩ := x2
        rw [h2] at h
        simp only at h
        split at h
        · refine ih _ _ _ _ h (fun x hx' => ?_)
          rcases List.mem_append.1 hx' with h' | h'
          · exact hx x h'
          · rw [(List.mem_replicate.1 h').2, fold_unfold]
            have := (natGo_lt b 0 0 (by omega) (by simp) _ _ h1).1
            simpa using this
        · cases h
theorem getRuns_sound {b : List UInt8} {n : Nat} {l : List Int} (h : getRuns b n = some l) : putRuns l = b ∧ l.length = n := by
  unfold getRuns at h
  cases h1 : natGo 0 0 b with
  | none => rw [h1] at h; cases h
  | some x1 =>
    obtain ⟨c, b1⟩ := x1
    rw [h1] at h
    simp only at h
    cases h2 : getGo n c [] b1 with
    | none => rw [h2] at h; cases h
    | some x2 =>
      obtain ⟨o, r⟩ := x2
      rw [h2] at h
      simp only at h
      split at h
      · rename_i hc
        injection h with h
        subst h
        obtain ⟨R, q1, q2, q3, q4, q5⟩ := getGo_sound n c [] b1 o r h2
        rw [List.nil_append] at q2
        refine ⟨?_, hc.2⟩
        unfold putRuns
        rw [q2, runsOf_expand R q4, q1, natGo_nat h1, q3, hc.1, List.append_nil]
      · cases h

theorem nat_back (v : Nat) (r : List UInt8) (h : v < 18446744073709551616) : natGo 0 0 (nat7 v ++ r) = some (v, r) := by
  have := natGo_nat7 v v 0 0 r (Nat.le_refl _) (by simpa using h) (fun h => by omega)
  simpa using this
theorem unfold_fold' (n : Int) : unfoldN (fold n) = n := unfold_fold n
theorem expand_length_cons (r : Int × Nat) (R : List (Int × Nat)) : (expand (r :: R)).length = r.2 + (expand R).length := by simp [expand]
theorem getGo_complete (n : Nat) (hn : n < 18446744073709551616) : ∀ R out rest, Good R → (∀ y, R.head? = some y → out.getLast? ≠ some y.1) → (∀ x ∈ R, fold x.1 < 18446744073709551616) → out.length + (expand R).length ≤ n →
    getGo n R.length out (R.flatMap runB ++ rest) = some (out ++ expand R, rest) := by
  intro R
  induction R with
  | nil => intro out rest _ _ _ _; simp [getGo, expand]
  | cons r t ih =>
    intro out rest hg hh hf hl
    have hp := hg.pos
    rw [expand_length_cons] at hl
    have hf0 := hf r (by simp)
    have e : (r :: t).flatMap runB ++ rest = nat7 (fold r.1) ++ (nat7 r.2 ++ (t.flatMap runB ++ rest)) := by simp [runB]
    rw [e, List.length_cons]
    unfold getGo
    rw [nat_back _ _ hf0]
    simp only
    rw [nat_back _ _ (by omega)]
    simp only
    rw [unfold_fold, if_pos ⟨hp, by omega, hh r rfl⟩, ih _ _ hg.tail _ (fun x hx => hf x (by simp [hx])) (by simp; omega)]
    · simp [expand]
    · intro y hy
      rw [last_replicate _ _ _ hp]
      cases t with
      | nil => simp at hy
      | cons s t =>
        simp at hy; subst hy
        exact fun e => hg.2.1 (Option.some.inj e)

theorem runsOf_length (l : List Int) : (runsOf l).length ≤ l.length := by
  have h : ∀ R, Good R → R.length ≤ (expand R).length := by
    intro R
    induction R with
    | nil => intro _; simp
    | cons r t ih => intro hg; have := ih hg.tail; have := hg.pos; rw [expand_length_cons, List.length_cons]; omega
  have := h _ (good_runsOf l)
  rwa [expand_runsOf] at this
theorem runsOf_mem (l : List Int) : ∀ x ∈ runsOf l, x.1 ∈ l := by
  intro x hx
  have h : x.1 ∈ expand (runsOf l) := by
    unfold expand
    rw [List.mem_flatMap]
    refine ⟨x, hx, ?_⟩
    have : ∀ R, Good R → ∀ x ∈ R, 0 < x.2 := by
      intro R
      induction R with
      | nil => intro _ x hx; simp at hx
      | cons r t ih =>
        intro hg x hx
        rcases List.mem_cons.1 hx with rfl | hx
        · exact hg.pos
        · exact ih hg.tail x hx
    have := this _ (good_runsOf l) x hx
    simp; omega
  rwa [expand_runsOf] at h
theorem getRuns_complete (l : List Int) (n : Nat) (hl : l.length = n) (hn : n ≤ 1000000) (hf : ∀ x ∈ l, fold x < 18446744073709551616) : getRuns (putRuns l) n = some l := by
  have hc := runsOf_length l
  unfold getRuns putRuns
  rw [nat_back _ _ (by omega)]
  simp only
  have := getGo_complete n (by omega) (runsOf l) [] [] (good_runsOf l) (fun y _ => by simp) (fun x hx => hf _ (runsOf_mem l x hx)) (by rw [expand_runsOf]; simp; omega)
  rw [List.append_nil, List.nil_append, expand_runsOf] at this
  rw [this]
  simp [hl]

theorem addRun_last (R : List (Int × Nat)) (v : Int) : (addRun R v).getLast?.map (·.1) = some v := by
  unfold addRun
  split
  · rfl
  · split
    · rename_i e
      simp [e]
    · simp
theorem runsOf_snoc (l : List Int) (v : Int) : runsOf (l ++ [v]) = addRun (runsOf l) v := by simp [runsOf]

/-- The document's reading of runs: no count, a check at the end. -/
def refGo (n : Nat) : Nat → List Int → List UInt8 → Option (List Int)
  | 0, _, _ => none
  | f + 1, out, r =>
    if r = [] then some out
    else match natGo 0 0 r with
    | none => none
    | some (u, r1) => match natGo 0 0 r1 with
      | none => none
      | some (m, r2) => if 256 < m then none else if n < (out ++ List.replicate m (unfoldN u)).length then none else refGo n f (out ++ List.replicate m (unfoldN u)) r2
def refGetN (b : List UInt8) (n : Nat) : Option (List Int) :=
  match natGo 0 0 b with
  | none => none
  | some (_, r) => match refGo n (b.length + 1) [] r with
    | none => none
    | some out => if out.length = n ∧ putRuns out = b then some out else none

theorem natGo_lt64 {b r : List UInt8} {v : Nat} (h : natGo 0 0 b = some (v, r)) : v < 18446744073709551616 ∧ r.length < b.length := by
  have := natGo_lt b 0 0 (by omega) (by simp) v r h
  exact ⟨by simpa using this.1, this.2⟩
theorem refGo_mem (n : Nat) : ∀ f out r l, refGo n f out r = some l → (∀ x ∈ out, fold x < 18446744073709551616) → ∀ x ∈ l, fold x < 18446744073709551616 := by
  intro f
  induction f with
  | zero => intro out r l h; simp [refGo] at h
  | succ f ih =>
    intro out r l h hx
    unfold refGo at h
    split at h
    · injection h with h; subst h; exact hx
    cases h1 : natGo 0 0 r with
    | none => rw [h1] at h; cases h
    | some x1 =>
      obtain ⟨u, r1⟩ := x1
      rw [h1] at h
      simp only at h
      cases h2 : natGo 0 0 r1 with
      | none => rw [h2] at h; cases h
      | some x2 =>
        obtain ⟨m, r2⟩ := x2
        rw [h2] at h
        simp only at h
        split at h
        · cases h
        split at h
        · cases h
        · refine ih _ _ _ h (fun x hx' => ?_)
          rcases List.mem_append.1 hx' with h' | h'
          · exact hx x h'
          · rw [(List.mem_replicate.1 h').2, fold_unfold]; exact (natGo_lt64 h1).1
theorem refGo_complete (n : Nat) (hn : n ≤ 256) : ∀ R f out, Good R → R.length < f → (∀ x ∈ R, fold x.1 < 18446744073709551616) → out.length + (expand R).length ≤ n → refGo n f out (R.flatMap runB) = some (out ++ expand R) := by
  intro R
  induction R with
  | nil =>
    intro f out _ hf _ _
    obtain ⟨f, rfl⟩ : ∃ q, f = q + 1 := ⟨f - 1, by simp at hf; omega⟩
    simp [refGo, expand]
  | cons r t ih =>
    intro f out hg hf hx hl
    have hp := hg.pos
    rw [expand_length_cons] at hl
    obtain ⟨f, rfl⟩ : ∃ q, f = q + 1 := ⟨f - 1, by simp at hf; omega⟩
    have e : (r :: t).flatMap runB = nat7 (fold r.1) ++ (nat7 r.2 ++ t.flatMap runB) := by simp [runB]
    have hne : nat7 (fold r.1) ++ (nat7 r.2 ++ t.flatMap runB) ≠ [] := by
      intro h
      have h1 := (nat7_len (fold r.1) (fold r.1) (Nat.lt_of_lt_of_le (Nat.lt_pow_self (by decide)) (Nat.pow_le_pow_right (by decide) (by omega)))).2
      rw [List.append_eq_nil_iff] at h
      rw [h.1] at h1
      simp at h1
    rw [e]
    unfold refGo
    rw [if_neg hne, nat_back _ _ (hx r (by simp))]
    simp only
    rw [nat_back _ _ (by omega)]
    simp only
    rw [unfold_fold, if_neg (by omega), if_neg (by simp; omega), ih f _ hg.tail (by simp at hf; omega) (fun x hx' => hx x (by simp [hx'])) (by simp; omega)]
    simp [expand]
theorem flat_runB_len (R : List (Int × Nat)) : R.length ≤ (R.flatMap runB).length := by
  induction R with
  | nil => simp
  | cons r t ih =>
    have h1 := (nat7_len (fold r.1) (fold r.1) (Nat.lt_of_lt_of_le (Nat.lt_pow_self (by decide)) (Nat.pow_le_pow_right (by decide) (by omega)))).2
    have h2 : (runB r).length = (nat7 (fold r.1)).length + (nat7 r.2).length := by simp [runB]
    rw [List.flatMap_cons, List.length_append, List.length_cons]
    omega
theorem refGetN_eq (b : List UInt8) (n : Nat) (hn : n ≤ 256) : refGetN b n = getRuns b n := by
  have hA : ∀ l, refGetN b n = some l → getRuns b n = some l := by
    intro l h
    unfold refGetN at h
    cases h1 : natGo 0 0 b with
    | none => rw [h1] at h; cases h
    | some x1 =>
      obtain ⟨c, r⟩ := x1
      rw [h1] at h
      simp only at h
      cases h2 : refGo n (b.length + 1) [] r with
      | none => rw [h2] at h; cases h
      | some out =>
        rw [h2] at h
        simp only at h
        split at h
        · rename_i hc
          injection h with h
          subst h
          have := getRuns_complete out n hc.1 (by omega) (refGo_mem n _ _ _ _ h2 (fun x hx => by simp at hx))
          rwa [hc.2] at this
        · cases h
  have hB : ∀ l, getRuns b n = some l → refGetN b n = some l := by
    intro l h
    obtain ⟨h1, h2⟩ := getRuns_sound h
    have hf : ∀ x ∈ l, fold x < 18446744073709551616 := by
      unfold getRuns at h
      cases h3 : natGo 0 0 b with
      | none => rw [h3] at h; cases h
      | some x1 =>
        obtain ⟨c, b1⟩ := x1
        rw [h3] at h
        simp only at h
        cases h4 : getGo n c [] b1 with
        | none => rw [h4] at h; cases h
        | some x2 =>
          obtain ⟨o, r⟩ := x2
          rw [h4] at h
          simp only at h
          split at h
          · injection h with h
            subst h
            exact getGo_mem n c [] b1 _ r h4 (fun x hx => by simp at hx)
          · cases h
    have hnb : natGo 0 0 b = some ((runsOf l).length, (runsOf l).flatMap runB) := by
      rw [← h1]
      exact nat_back _ _ (by have := runsOf_length l; omega)
    have hlen : (runsOf l).length < b.length + 1 := by
      have := (natGo_lt64 hnb).2
      have := flat_runB_len (runsOf l)
      omega
    unfold refGetN
    rw [hnb]
    simp only
    rw [refGo_complete n hn (runsOf l) _ [] (good_runsOf l) hlen (fun x hx => hf _ (runsOf_mem l x hx)) (by rw [expand_runsOf]; simp; omega), List.nil_append, expand_runsOf]
    simp only
    rw [if_pos ⟨h2, h1⟩]
  cases h : getRuns b n with
  | some l => exact hB l h
  | none =>
    cases h' : refGetN b n with
    | none => rfl
    | some l => rw [hA l h'] at h; cases h
end Go.Proofs.YthbipcjgpocpaaaGreat
