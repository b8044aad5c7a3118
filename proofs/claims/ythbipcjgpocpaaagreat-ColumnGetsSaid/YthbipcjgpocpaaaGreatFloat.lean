/- How the model's doubles compare, told by their bits. -/
import Derived.Test.YthbipcjgpocpaaaGreatNum
namespace Go.Proofs.YthbipcjgpocpaaaGreat
set_option linter.unusedSimpArgs false
set_option linter.unusedVariables false

/-- A double without its sign; is it no number; its place among all. -/
def fmag (u : Nat) : Nat := u % 9223372036854775808
def fneg (u : Nat) : Bool := u / 9223372036854775808 % 2 == 1
def fnan (u : Nat) : Bool := decide (9218868437227405312 < fmag u)
def fkey (u : Nat) : Int := if fneg u then -(fmag u : Int) else (fmag u : Int)
def cmpI (a b : Int) : Ordering := if a < b then .lt else if a = b then .eq else .gt
theorem compare_cmpI (a b : Int) : compare a b = cmpI a b := rfl

def fB : Nat := 4503599627370496
def fval (r : Nat) : Nat := if r < fB then r else (fB + r % fB) * 2 ^ (r / fB - 1)
def fsh (r : Nat) : Nat := if r < fB then 0 else r / fB - 1
def fmg (r : Nat) : Nat := if r < fB then r else fB + r % fB
theorem fval_eq (r : Nat) : fval r = fmg r * 2 ^ fsh r := by unfold fval fmg fsh; split <;> simp

theorem fval_lt {r s : Nat} (h : r < s) : fval r < fval s := by
  unfold fval
  have hB : 0 < fB := by decide
  by_cases hs : s < fB
  · rw [if_pos (by omega), if_pos hs]; exact h
  rw [if_neg hs]
  have hq : 1 ≤ s / fB := (Nat.le_div_iff_mul_le hB).2 (by omega)
  have hms := Nat.mod_lt s hB
  have hp : 0 < 2 ^ (s / fB - 1) := Nat.two_pow_pos _
  by_cases hr : r < fB
  · rw [if_pos hr]
    have : fB * 1 ≤ (fB + s % fB) * 2 ^ (s / fB - 1) := Nat.mul_le_mul (by omega) hp
    omega
  rw [if_neg hr]
  have hq' : 1 ≤ r / fB := (Nat.le_div_iff_mul_le hB).2 (by omega)
  have hmr := Nat.mod_lt r hB
  have hle : r / fB ≤ s / fB := Nat.div_le_div_right (by omega)
  have e1 := Nat.div_add_mod r fB
  have e2 := Nat.div_add_mod s fB
  rcases Nat.lt_or_eq_of_le hle with hlt | heq
  · have h1 : (fB + r % fB) * 2 ^ (r / fB - 1) < (fB + fB) * 2 ^ (r / fB - 1) := Nat.mul_lt_mul_of_pos_right (by omega) (Nat.two_pow_pos _)
    have h2 : (fB + fB) * 2 ^ (r / fB - 1) = fB * 2 ^ (r / fB) := by
      have : 2 ^ (r / fB) = 2 ^ (r / fB - 1) * 2 := by rw [← Nat.pow_succ]; congr 1; omega
      rw [this, ← Nat.two_mul, Nat.mul_comm 2 fB, Nat.mul_assoc, Nat.mul_comm 2]
    have h3 : fB * 2 ^ (r / fB) ≤ fB * 2 ^ (s / fB - 1) := Nat.mul_le_mul_left _ (Nat.pow_le_pow_right (by decide) (by omega))
    have h4 : fB * 2 ^ (s / fB - 1) ≤ (fB + s % fB) * 2 ^ (s / fB - 1) := Nat.mul_le_mul_right _ (by omega)
    omega
  · rw [heq]
    refine Nat.mul_lt_mul_of_pos_right ?_ (Nat.two_pow_pos _)
    rw [heq] at e1
    omega
theorem fval_le_iff {r s : Nat} : fval r < fval s ↔ r < s := by
  constructor
  · intro h
    rcases Nat.lt_trichotomy r s with h' | h' | h'
    · exact h'
    · subst h'; omega
    · have := fval_lt h'; omega
  · exact fval_lt
theorem fval_inj {r s : Nat} : fval r = fval s ↔ r = s := by
  constructor
  · intro h
    rcases Nat.lt_trichotomy r s with h' | h' | h'
    · have := fval_lt h'; omega
    · exact h'
    · have := fval_lt h'; omega
  · rintro rfl; rfl
theorem fval_zero : fval 0 = 0 := by unfold fval; rw [if_pos (by decide)]

def sgnd (s : Bool) (r : Nat) : Int := if s then -(r : Int) else (r : Int)
theorem cmp_val (s t : Bool) (r r' : Nat) : cmpI (sgnd s (fval r)) (sgnd t (fval r')) = cmpI (sgnd s r) (sgnd t r') := by
  have h1 : fval r < fval r' ↔ r < r' := fval_le_iff
  have h2 : fval r' < fval r ↔ r' < r := fval_le_iff
  have h3 : fval r = 0 ↔ r = 0 := by have := @fval_inj r 0; rwa [fval_zero] at this
  have h4 : fval r' = 0 ↔ r' = 0 := by have := @fval_inj r' 0; rwa [fval_zero] at this
  have hlt : sgnd s (fval r) < sgnd t (fval r') ↔ sgnd s r < sgnd t r' := by
    cases s <;> cases t <;> simp only [sgnd, if_true, if_false, Bool.false_eq_true] <;> omega
  have heq : sgnd s (fval r) = sgnd t (fval r') ↔ sgnd s r = sgnd t r' := by
    cases s <;> cases t <;> simp only [sgnd, if_true, if_false, Bool.false_eq_true] <;> omega
  unfold cmpI
  simp only [hlt, heq]
theorem cmp_mul (a b : Int) (k : Nat) (hk : 0 < k) : cmpI (a * k) (b * k) = cmpI a b := by
  unfold cmpI
  have hk' : (0 : Int) < (k : Int) := by omega
  have h1 : a * k < b * k ↔ a < b := Int.mul_lt_mul_right hk'
  have h2 : a * k = b * k ↔ a = b := ⟨fun h => Int.eq_of_mul_eq_mul_right (by omega) h, fun h => by rw [h]⟩
  simp only [h1, h2]
theorem signed_shift (s : Bool) (m i q : Nat) (h : q ≤ i) : Ieee.signed s m (i - q) * ((2 ^ q : Nat) : Int) = sgnd s (m * 2 ^ i) := by
  have e : m <<< (i - q) * 2 ^ q = m * 2 ^ i := by
    rw [Nat.shiftLeft_eq, Nat.mul_assoc, ← Nat.pow_add]
    congr 2
    omega
  unfold Ieee.signed sgnd
  cases s
  · simp only [Bool.false_eq_true, if_false]
    rw [← e]
    push_cast
    rfl
  · simp only [if_true]
    rw [← e, Int.neg_mul]
    push_cast
    rfl

theorem read_word (u : Nat) : Ieee.double.read u = if fmag u < fB then .number (fneg u) (fmag u) Ieee.double.leastPlace
    else if fmag u < 9218868437227405312 then .number (fneg u) (fB + fmag u % fB) (Ieee.double.leastPlace + (fmag u / fB - 1 : Nat))
    else if fmag u = 9218868437227405312 then .infinity (fneg u) else .nan (fneg u) (fmag u - 9218868437227405312) := rfl
theorem read_nan {u : Nat} (h : fnan u = true) : ∃ s t, Ieee.double.read u = .nan s t := by
  have h := of_decide_eq_true h
  have hB : fB = 4503599627370496 := rfl
  rw [read_word, if_neg (by omega), if_neg (by omega), if_neg (by omega)]
  exact ⟨_, _, rfl⟩
theorem read_inf {u : Nat} (h : fmag u = 9218868437227405312) : Ieee.double.read u = .infinity (fneg u) := by
  have hB : fB = 4503599627370496 := rfl
  rw [read_word, if_neg (by omega), if_neg (by omega), if_pos h]
theorem read_num {u : Nat} (h : fmag u < 9218868437227405312) : Ieee.double.read u = .number (fneg u) (fmg (fmag u)) (Ieee.double.leastPlace + (fsh (fmag u) : Nat)) := by
  rw [read_word]
  unfold fmg fsh
  by_cases hb : fmag u < fB
  · rw [if_pos hb, if_pos hb, if_pos hb]
    simp
  · rw [if_neg hb, if_neg hb, if_neg hb, if_pos h]

theorem double_order (x y : Nat) : Ieee.double.order x y = if fnan x = true ∨ fnan y = true then none else some (cmpI (fkey x) (fkey y)) := by
  unfold Ieee.Format.order
  by_cases hx : fnan x = true
  · obtain ⟨s, t, e⟩ := read_nan hx
    rw [e, if_pos (.inl hx)]
    cases Ieee.double.read y <;> rfl
  by_cases hy : fnan y = true
  · obtain ⟨s, t, e⟩ := read_nan hy
    rw [e, if_pos (.inr hy)]
    cases Ieee.double.read x <;> rfl
  rw [if_neg (by simp [hx, hy])]
  have hx' : fmag x ≤ 9218868437227405312 := by simp [fnan] at hx; omega
  have hy' : fmag y ≤ 9218868437227405312 := by simp [fnan] at hy; omega
  have hk : ∀ u, fkey u = sgnd (fneg u) (fmag u) := fun u => rfl
  rcases Nat.lt_or_eq_of_le hx' with hx1 | hx1
  · rcases Nat.lt_or_eq_of_le hy' with hy1 | hy1
    · rw [read_num hx1, read_num hy1]
      show some (compare (Ieee.signed _ _ _) (Ieee.signed _ _ _)) = _
      rw [compare_cmpI, hk, hk, ← cmp_val, fval_eq, fval_eq]
      obtain ⟨q, hq⟩ : ∃ q, q = min (fsh (fmag x)) (fsh (fmag y)) := ⟨_, rfl⟩
      have e1 : (Ieee.double.leastPlace + (fsh (fmag x) : Nat) - min (Ieee.double.leastPlace + (fsh (fmag x) : Nat)) (Ieee.double.leastPlace + (fsh (fmag y) : Nat))).toNat = fsh (fmag x) - q := by omega
      have e2 : (Ieee.double.leastPlace + (fsh (fmag y) : Nat) - min (Ieee.double.leastPlace + (fsh (fmag x) : Nat)) (Ieee.double.leastPlace + (fsh (fmag y) : Nat))).toNat = fsh (fmag y) - q := by omega
      rw [e1, e2, ← cmp_mul _ _ (2 ^ q) (Nat.two_pow_pos _), signed_shift _ _ _ _ (by omega), signed_shift _ _ _ _ (by omega)]
    · rw [read_num hx1, read_inf hy1]
      show some (if fneg y = true then Ordering.gt else .lt) = _
      rw [hk, hk, hy1]
      unfold cmpI sgnd
      cases fneg x <;> cases fneg y <;> simp only [if_true, if_false, Bool.false_eq_true] <;> repeat' split
      all_goals first | rfl | (exfalso; omega)
  · rcases Nat.lt_or_eq_of_le hy' with hy1 | hy1
    · rw [read_inf hx1, read_num hy1]
      show some (if fneg x = true then Ordering.lt else .gt) = _
      rw [hk, hk, hx1]
      unfold cmpI sgnd
      cases fneg x <;> cases fneg y <;> simp only [if_true, if_false, Bool.false_eq_true] <;> repeat' split
      all_goals first | rfl | (exfalso; omega)
    · rw [read_inf hx1, read_inf hy1]
      show some (compare (fneg y).toNat (fneg x).toNat) = _
      rw [hk, hk, hx1, hy1]
      unfold cmpI sgnd
      cases fneg x <;> cases fneg y <;> rfl
end Go.Proofs.YthbipcjgpocpaaaGreat
