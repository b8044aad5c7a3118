/- The walks of package pack that read numbers and texts: Number, Text, each once. -/
import Derived.Test.YthbipcjgpocpaaaGreatPackR
namespace Go.Proofs.YthbipcjgpocpaaaGreat
open Go.RowKit
set_option linter.unusedSimpArgs false
set_option linter.unusedVariables false

/-- The whole number of a natural one. -/
def unfoldN (u : Nat) : Int := if u % 2 = 0 then ((u / 2 : Nat) : Int) else -((u / 2 : Nat) : Int) - 1
theorem unfold_fold (n : Int) : unfoldN (fold n) = n := by unfold unfoldN fold; split <;> split <;> omega

theorem unfold_bits (v : Nat) (h : v < 18446744073709551616) :
    bits BinOp.xor IntKind.i64 (wrap64 ((v : Int) / 2)) (wrap64 (-wrap64 (bits BinOp.and IntKind.u64 (v : Int) 1))) = unfoldN v := by
  have h1 : bits BinOp.and IntKind.u64 (v : Int) 1 = ((v % 2 : Nat) : Int) := by
    have := bits_and_u64_nat v 1 h (by decide)
    rw [show ((1 : Nat) : Int) = 1 from rfl, Nat.and_one_is_mod] at this
    exact this
  have h2 : wrap64 ((v : Int) / 2) = ((v / 2 : Nat) : Int) := by unfold wrap64; omega
  have h3 : (BitVec.ofInt 64 ((v / 2 : Nat) : Int)).toNat = v / 2 := by rw [BitVec.ofInt_natCast, BitVec.toNat_ofNat]; exact Nat.mod_eq_of_lt (by omega)
  rw [h1, h2]
  unfold unfoldN
  by_cases he : v % 2 = 0
  · rw [if_pos he, he]
    have h4 : wrap64 (-wrap64 ((0 : Nat) : Int)) = 0 := by unfold wrap64; omega
    rw [h4]
    show IntKind.i64.wrap ((BitVec.ofInt 64 ((v / 2 : Nat) : Int) ^^^ BitVec.ofInt 64 0).toNat : Int) = _
    rw [BitVec.toNat_xor, h3, show (BitVec.ofInt 64 0).toNat = 0 from by decide, Nat.xor_zero, IntKind.wrap_i64]
    omega
  · rw [if_neg he, show v % 2 = 1 from by omega]
    have h4 : wrap64 (-wrap64 ((1 : Nat) : Int)) = -1 := by unfold wrap64; omega
    rw [h4]
    show IntKind.i64.wrap ((BitVec.ofInt 64 ((v / 2 : Nat) : Int) ^^^ BitVec.ofInt 64 (-1)).toNat : Int) = _
    have h5 := xor_ones (v / 2) (by omega)
    rw [BitVec.toNat_xor, h3, show (BitVec.ofInt 64 (-1)).toNat = 2 ^ 64 - 1 from by decide, h5, IntKind.wrap_i64]
    omega

def NumPost (r : Option (Nat × List UInt8)) (b sb : Nat) (w : World) (e : Ending) (w' : World) : Prop :=
  match r with
  | some (v, rest) => e = .returned (.tuple #[.int .i64 (unfoldN v), .bool true]) ∧ Rd w' b sb rest false ∧ Keeps (· = b) w w'
  | none => e = .returned (.tuple #[.int .i64 0, .bool false]) ∧ (∃ xs, Rd w' b sb xs true) ∧ Keeps (· = b) w w'

theorem natGo_nat7 (k : Nat) : ∀ v j m r, v ≤ k → v * 2 ^ (7 * j) < 2 ^ 64 → (0 < j → 0 < v) → natGo j m (nat7 v ++ r) = some (m + v * 2 ^ (7 * j), r) := by
  induction k with
  | zero =>
    intro v j m r hv h64 h0
    obtain rfl : v = 0 := by omega
    rw [nat7_low (by decide), List.singleton_append, natGo]
    have hj : ¬ 0 < j := by intro h; have := h0 h; omega
    rw [if_neg (by intro h; rcases h with ⟨_, h⟩ | ⟨h, _⟩ <;> first | exact absurd h (by decide) | exact hj h), if_pos (by decide)]
    simp
  | succ k ih =>
    intro v j m r hv h64 h0
    by_cases hl : v < 128
    · rw [nat7_low hl, List.singleton_append, natGo]
      have hc : (UInt8.ofNat v).toNat = v := by rw [UInt8.toNat_ofNat']; omega
      have h9 : j = 9 → v < 2 := by
        intro h; subst h
        have e : (2 : Nat) ^ 64 = 2 * 2 ^ (7 * 9) := by decide
        rw [e] at h64
        exact Nat.lt_of_mul_lt_mul_right h64
      rw [hc, if_neg (by omega), if_pos hl, Nat.mod_eq_of_lt hl]
    · rw [nat7_step (by omega), List.cons_append, natGo]
      have hc : (UInt8.ofNat (128 + v % 128)).toNat = 128 + v % 128 := by rw [UInt8.toNat_ofNat']; omega
      have h9 : j ≠ 9 := by
        intro h; subst h
        have h1 : 128 * 2 ^ (7 * 9) ≤ v * 2 ^ (7 * 9) := Nat.mul_le_mul_right _ (by omega)
        have e : (2 : Nat) ^ 64 < 128 * 2 ^ (7 * 9) := by decide
        omega
      rw [hc, if_neg (by omega), if_neg (by omega)]
      have e7 : 2 ^ (7 * (j + 1)) = 128 * 2 ^ (7 * j) := by rw [show 7 * (j + 1) = 7 * j + 7 from by omega, Nat.pow_add, Nat.mul_comm]
      have hle : v / 128 * 2 ^ (7 * (j + 1)) ≤ v * 2 ^ (7 * j) := by
        rw [e7, ← Nat.mul_assoc]
        exact Nat.mul_le_mul_right _ (Nat.div_mul_le_self v 128)
      rw [ih (v / 128) (j + 1) _ r (by omega) (by omega) (by omega), e7, ← Nat.mul_assoc]
      congr 2
      rw [show (128 + v % 128) % 128 = v % 128 from by omega]
      have e1 : v * 2 ^ (7 * j) = (v % 128) * 2 ^ (7 * j) + (v / 128 * 128) * 2 ^ (7 * j) := by rw [← Nat.add_mul]; congr 1; omega
      rw [e1]; omega

theorem rdNat_lt {st : Option (List UInt8)} {v : Nat} {r : List UInt8} (h : rdNat st = some (v, r)) : v < 18446744073709551616 := by
  cases st with
  | none => cases h
  | some xs =>
    have := (natGo_lt xs 0 0 (by omega) (by simp) v r h).1
    have e64 : (2 : Nat) ^ 64 = 18446744073709551616 := by decide
    omega

set_option maxRecDepth 100000 in
set_option maxHeartbeats 1000000 in
theorem rnumber_any (b sb : Nat) (st : Option (List UInt8)) (w : World) (h : Rds w b sb st) :
    Calls Tryz.prog 57 #[.pointer (some ⟨b, 0, none⟩)] w (NumPost (rdNat st) b sb w) := by
  go_enter Tryz.func57, Tryz.ntmps57
  go_wp2_with fail
  refine (rnatural_any b sb st w h).mono ?_
  intro e w1 h1
  cases hr : rdNat st with
  | none =>
    rw [hr] at h1
    obtain ⟨rfl, hb, hk⟩ := h1
    have Hr := Lib.hid hr
    clear hr
    go_wp2_with fail
    go_ret2
    rw [Hr.out]
    refine ⟨congrArg (fun z => Ending.returned (.tuple #[.int .i64 z, .bool false])) ?_, hb, hk⟩
    have := unfold_bits 0 (by decide)
    simpa [wrap64, unfoldN] using this
  | some p =>
    obtain ⟨v, rest⟩ := p
    rw [hr] at h1
    obtain ⟨rfl, hb, hk⟩ := h1
    have hlt := rdNat_lt hr
    have Hlt := Lib.hid hlt
    have Hr := Lib.hid hr
    clear hr hlt
    go_wp2_with fail
    go_ret2
    rw [Hr.out]
    exact ⟨congrArg (fun z => Ending.returned (.tuple #[.int .i64 z, .bool true])) (unfold_bits v Hlt.out), hb, hk⟩

def TextPost (r : Option (Nat × List UInt8)) (b sb : Nat) (w : World) (e : Ending) (w' : World) : Prop :=
  match r with
  | some (v, rest) =>
    if v ≤ rest.length then e = .returned (.tuple #[.string ⟨(rest.take v).toArray⟩, .bool true]) ∧ Rd w' b sb (rest.drop v) false ∧ Keeps (· = b) w w'
    else e = .returned (.tuple #[.string ⟨#[]⟩, .bool false]) ∧ (∃ xs, Rd w' b sb xs true) ∧ Keeps (· = b) w w'
  | none => e = .returned (.tuple #[.string ⟨#[]⟩, .bool false]) ∧ (∃ xs, Rd w' b sb xs true) ∧ Keeps (· = b) w w'

set_option maxRecDepth 100000 in
set_option maxHeartbeats 1000000 in
theorem rtext_any (b sb : Nat) (st : Option (List UInt8)) (w : World) (h : Rds w b sb st) :
    Calls Tryz.prog 58 #[.pointer (some ⟨b, 0, none⟩)] w (TextPost (rdNat st) b sb w) := by
  go_enter Tryz.func58, Tryz.ntmps58
  go_wp2_with fail
  refine (rnatural_any b sb st w h).mono ?_
  intro e w1 h1
  cases hr : rdNat st with
  | none =>
    rw [hr] at h1
    obtain ⟨rfl, ⟨xs, hb⟩, hk⟩ := h1
    have Hr := Lib.hid hr
    clear hr
    go_wp2_with fail
    refine (fail_any b sb xs true _ hb).mono ?_
    rintro e w2 ⟨rfl, hr2, hk2⟩
    go_wp2_with fail
    go_ret2
    rw [Hr.out]
    exact ⟨rfl, ⟨_, hr2⟩, hk.same hk2⟩
  | some p =>
    obtain ⟨v, rest⟩ := p
    rw [hr] at h1
    obtain ⟨rfl, hb, hk⟩ := h1
    have Hr := Lib.hid hr
    clear hr
    have hR := hb
    obtain ⟨a, n, c, g1, g2, g3, g4⟩ := hb
    have hlen : rest.length = n := by simpa using g2.len
    have hc0 := cell_of_row w1 b 0 _ _ (0, 0) g1
    have hc1 := cell_of_row w1 b 1 _ _ (0, 0) g1
    have hf := frozen_of_row w1 b 0 _ _ g1
    have Hlen := Lib.hid hlen
    clear hlen
    by_cases hv : v ≤ n
    · have hle := g2.le
      have hst := (g2.takev hv)
      rw [← List.map_take] at hst
      have hstr := hst.str (P := Tryz.prog) 22 9 5 Tryz.underlying22 Tryz.underlying5 Tryz.underlying9
      have hd := g2.dropv (k := v) hv
      rw [← List.map_drop] at hd
      have hsw := Keeps.set w1 b 0
      by_cases hcv : c = v
      · subst hcv
        obtain rfl : n = c := by omega
        rw [if_pos rfl, Nat.sub_self] at hd
        go_wp2_with fail
        go_ret2
        rw [Hr.out]
        unfold TextPost
        simp only []
        rw [if_pos (by rw [Hlen.out]; exact Nat.le_refl _)]
        exact ⟨rfl, Rd.store g1 _ (heap_setCell_same w1 b 0 _ _ _ g1) (hsw _) hd (fun h => absurd h (by omega)) (by omega), hk.same (hsw _)⟩
      · rw [if_neg hcv] at hd
        go_wp2_with fail
        go_ret2
        rw [Hr.out]
        unfold TextPost
        simp only []
        rw [if_pos (by rw [Hlen.out]; exact hv)]
        refine ⟨rfl, Rd.store g1 _ (heap_setCell_same w1 b 0 _ _ _ g1) (hsw _) hd (fun h => ?_) (by omega), hk.same (hsw _)⟩
        have hn0 : 0 < n := by omega
        refine ⟨?_, (g3 hn0).2⟩
        rw [g2.isSome hn0]
        exact (Sl.block_add _ v).trans (g3 hn0).1
    · go_wp2_with fail
      refine (fail_any b sb rest false _ hR).mono ?_
      rintro e w2 ⟨rfl, hr2, hk2⟩
      go_wp2_with fail
      go_ret2
      rw [Hr.out]
      unfold TextPost
      simp only []
      rw [if_neg (by rw [Hlen.out]; exact hv)]
      exact ⟨rfl, ⟨_, hr2⟩, hk.same hk2⟩

theorem TextPost.ok {v b sb : Nat} {rest : List UInt8} {w w' : World} {e : Ending} (h : TextPost (some (v, rest)) b sb w e w') (hv : v ≤ rest.length) :
    e = .returned (.tuple #[.string ⟨(rest.take v).toArray⟩, .bool true]) ∧ Rd w' b sb (rest.drop v) false ∧ Keeps (· = b) w w' := by
  unfold TextPost at h
  simp only [] at h
  rwa [if_pos hv] at h
theorem TextPost.no {v b sb : Nat} {rest : List UInt8} {w w' : World} {e : Ending} (h : TextPost (some (v, rest)) b sb w e w') (hv : ¬ v ≤ rest.length) :
    e = .returned (.tuple #[.string ⟨#[]⟩, .bool false]) ∧ (∃ xs, Rd w' b sb xs true) ∧ Keeps (· = b) w w' := by
  unfold TextPost at h
  simp only [] at h
  rwa [if_neg hv] at h
end Go.Proofs.YthbipcjgpocpaaaGreat
