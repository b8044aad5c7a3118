/- Pages as plain data: what stands beside them, handles of bytes. -/
import Derived.Test.YthimnkmoeonheaaDoorPackW
import Derived.Test.YthimnkmoeonheaaDoorPlainDev
namespace Go.Proofs.YthimnkmoeonheaaDoor
set_option linter.unusedSimpArgs false
set_option linter.unusedVariables false

theorem nat7_prefix : ∀ (u v : Nat) (r s : List UInt8), nat7 u ++ r = nat7 v ++ s → u = v ∧ r = s := by
  intro u
  induction u using Nat.strongRecOn with
  | ind u ih =>
    intro v r s h
    by_cases hu : u < 128
    · by_cases hv : v < 128
      · rw [nat7_low hu, nat7_low hv] at h
        simp only [List.cons_append, List.nil_append, List.cons.injEq] at h
        have := congrArg UInt8.toNat h.1
        simp at this
        exact ⟨by omega, h.2⟩
      · rw [nat7_low hu, nat7_step (n := v) (by omega)] at h
        simp only [List.cons_append, List.nil_append, List.cons.injEq] at h
        have := congrArg UInt8.toNat h.1
        simp at this
        omega
    · by_cases hv : v < 128
      · rw [nat7_low hv, nat7_step (n := u) (by omega)] at h
        simp only [List.cons_append, List.nil_append, List.cons.injEq] at h
        have := congrArg UInt8.toNat h.1
        simp at this
        omega
      · rw [nat7_step (n := u) (by omega), nat7_step (n := v) (by omega)] at h
        simp only [List.cons_append, List.cons.injEq] at h
        have h1 := congrArg UInt8.toNat h.1
        simp at h1
        obtain ⟨h2, h3⟩ := ih (u / 128) (Nat.div_lt_self (by omega) (by decide)) _ _ _ h.2
        exact ⟨by omega, h3⟩
theorem fold_inj {a b : Int} (h : fold a = fold b) : a = b := by unfold fold at h; split at h <;> split at h <;> omega

/-- Numbers, one behind the other. -/
def besideL (l : List Int) : List UInt8 := l.flatMap fun n => nat7 (fold n)
theorem besideL_snoc (l : List Int) (n : Int) : besideL (l ++ [n]) = besideL l ++ nat7 (fold n) := by simp [besideL]
theorem besideL_inj : ∀ (l l' : List Int) (r r' : List UInt8), l.length = l'.length → besideL l ++ r = besideL l' ++ r' → l = l'
  | [], [], _, _, _, _ => rfl
  | [], _ :: _, _, _, h, _ => by simp at h
  | _ :: _, [], _, _, h, _ => by simp at h
  | n :: t, n' :: t', r, r', hl, h => by
    have e : ∀ (n : Int) (t : List Int), besideL (n :: t) = nat7 (fold n) ++ besideL t := fun n t => by simp [besideL]
    rw [e, e, List.append_assoc, List.append_assoc] at h
    obtain ⟨h1, h2⟩ := nat7_prefix _ _ _ _ h
    rw [fold_inj h1, besideL_inj t t' r r' (by simpa using hl) h2]
theorem besideL_len (l : List Int) (h : ∀ n ∈ l, -9223372036854775808 ≤ n ∧ n ≤ 9223372036854775807) : (besideL l).length ≤ 10 * l.length := by
  induction l with
  | nil => simp [besideL]
  | cons n t ih =>
    have e : besideL (n :: t) = nat7 (fold n) ++ besideL t := by simp [besideL]
    have := nat7_len64 _ (fold_lt (h n (by simp)))
    have := ih (fun m hm => h m (by simp [hm]))
    rw [e]; simp; omega

/-- The number that eight bytes make, the lowest first. -/
def hDn : List UInt8 → Nat
  | [] => 0
  | x :: t => x.toNat + 256 * hDn t
def hOf (b : List UInt8) : Nat := hDn (b.take 8)
def handleA (b : List UInt8) : Nat × Bool := if b.length = 16 ∧ (∀ x ∈ b.drop 8, x = 0) then (hOf b, decide (hOf b ≠ 0)) else (0, false)
def hUp (b : List UInt8) : Nat → Nat
  | 0 => 0
  | k + 1 => hUp b k + (b.getD k 0).toNat * 2 ^ (8 * k)
theorem hUp_lt (b : List UInt8) : ∀ k, hUp b k < 2 ^ (8 * k)
  | 0 => by simp [hUp]
  | k + 1 => by
    have h1 := hUp_lt b k
    have h2 := (b.getD k 0).toNat_lt
    have e : 2 ^ (8 * (k + 1)) = 256 * 2 ^ (8 * k) := by rw [Nat.mul_add, Nat.pow_add]; omega
    have h3 : (b.getD k 0).toNat * 2 ^ (8 * k) ≤ 255 * 2 ^ (8 * k) := Nat.mul_le_mul_right _ (by omega)
    show hUp b k + (b.getD k 0).toNat * 2 ^ (8 * k) < _
    omega
theorem hDn_lt : ∀ (l : List UInt8), hDn l < 256 ^ l.length
  | [] => by simp [hDn]
  | x :: t => by
    have h1 := hDn_lt t
    have h2 := x.toNat_lt
    simp only [hDn, List.length_cons, Nat.pow_succ]
    omega
theorem list8 {α : Type} (l : List α) (h : l.length = 8) : ∃ a0 a1 a2 a3 a4 a5 a6 a7, l = [a0, a1, a2, a3, a4, a5, a6, a7] := by
  match l, h with
  | [a0, a1, a2, a3, a4, a5, a6, a7], _ => exact ⟨a0, a1, a2, a3, a4, a5, a6, a7, rfl⟩
theorem hUp_hOf (b : List UInt8) (h : 8 ≤ b.length) : hUp b 8 = hOf b := by
  have hl : (b.take 8).length = 8 := by simp; omega
  obtain ⟨a0, a1, a2, a3, a4, a5, a6, a7, e⟩ := list8 _ hl
  have hg : ∀ k, k < 8 → b.getD k 0 = (b.take 8).getD k 0 := fun k hk => by simp [List.getElem?_take, hk]
  unfold hOf
  simp only [hUp]
  rw [hg 0 (by decide), hg 1 (by decide), hg 2 (by decide), hg 3 (by decide), hg 4 (by decide), hg 5 (by decide), hg 6 (by decide), hg 7 (by decide), e]
  simp [hDn]
  omega
theorem hOf_lt (b : List UInt8) (h : 8 ≤ b.length) : hOf b < 18446744073709551616 := by
  have := hDn_lt (b.take 8)
  have hl : (b.take 8).length = 8 := by simp; omega
  rw [hl] at this
  unfold hOf
  simpa using this
theorem hDn_zero : ∀ (l : List UInt8), hDn l = 0 ↔ ∀ x ∈ l, x = 0
  | [] => by simp [hDn]
  | x :: t => by
    have ih := hDn_zero t
    simp only [hDn, List.mem_cons, forall_eq_or_imp]
    constructor
    · intro h
      have h1 : x.toNat = 0 := by omega
      exact ⟨UInt8.toNat_inj.1 (by simpa using h1), ih.1 (by omega)⟩
    · rintro ⟨rfl, h⟩
      rw [ih.2 h]; rfl

/-- The eight bytes of a handle. -/
def bytes8 (h : Nat) : List UInt8 := (List.range 8).map fun i => UInt8.ofNat (h / 2 ^ (8 * i))
theorem bytes8_len (h : Nat) : (bytes8 h).length = 8 := by simp [bytes8]
theorem hOf_bytes8 (h : Nat) (hh : h < 18446744073709551616) : hOf (full (bytes8 h)) = h := by
  have e : (full (bytes8 h)).take 8 = bytes8 h := by unfold full; rw [List.take_left' (bytes8_len h)]
  unfold hOf
  rw [e]
  simp [bytes8, List.range, List.range.loop, hDn]
  try omega
theorem handle_bytes8 (h : Nat) (hh : h < 18446744073709551616) (h0 : h ≠ 0) : handleA (full (bytes8 h)) = (h, true) := by
  have hz : ∀ x ∈ (full (bytes8 h)).drop 8, x = 0 := by
    intro x hx
    unfold full at hx
    rw [List.drop_left' (bytes8_len h)] at hx
    exact (List.mem_replicate.1 hx).2
  unfold handleA
  rw [if_pos ⟨full_len _ (by rw [bytes8_len]; omega), hz⟩, hOf_bytes8 h hh]
  simp [h0]
end Go.Proofs.YthimnkmoeonheaaDoor
