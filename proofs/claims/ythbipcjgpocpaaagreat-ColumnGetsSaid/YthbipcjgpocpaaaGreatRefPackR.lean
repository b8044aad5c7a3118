/- The walks of the document's answer for layer 1 that read: Unfolded and Read, each once. -/
import Derived.Test.YthbipcjgpocpaaaGreatPackT
namespace Go.Proofs.YthbipcjgpocpaaaGreat
open Go.RowKit
set_option linter.unusedSimpArgs false
set_option linter.unusedVariables false

set_option maxRecDepth 100000 in
theorem unfolded_any (v : Nat) (w : World) (h : v < 18446744073709551616) :
    Calls Tryz.prog 62 #[.int .u64 (v : Int)] w fun e w' => e = .returned (.int .i64 (unfoldN v)) ∧ w = w' := by
  have h1 : wrap64 (IntKind.u64.wrap ((v : Int) / 2)) = ((v / 2 : Nat) : Int) := by simp only [wrap64, IntKind.wrap_u64]; omega
  by_cases he : v % 2 = 0
  · have e0 : (((v : Int) % 2) == 0) = true := by rw [beq_iff_eq]; omega
    have H := Lib.hid h
    have He := Lib.hid he
    clear h he
    go_enter Tryz.func62, Tryz.ntmps62
    go_wp2_with fail
    go_ret
    refine ⟨ret_num ?_, rfl⟩
    rw [unfoldN, if_pos He.out]
    exact h1
  · have e0 : (((v : Int) % 2) == 0) = false := by rw [beq_eq_false_iff_ne]; omega
    have H := Lib.hid h
    have He := Lib.hid he
    clear h he
    go_enter Tryz.func62, Tryz.ntmps62
    go_wp2_with fail
    go_ret
    refine ⟨ret_num ?_, rfl⟩
    rw [unfoldN, if_neg He.out]
    have := H.out
    simp only [wrap64]
    omega

/-- What Read answers. -/
def readQ (n : Nat) : Option (Nat × List UInt8) → Nat × Nat | some (v, r) => (v, n - r.length) | none => (0, 0)
def readP (b : List UInt8) : Nat × Nat := readQ b.length (natGo 0 0 b)

set_option maxRecDepth 100000 in
set_option maxHeartbeats 2000000 in
theorem read_any (a : Option Addr) (n c : Nat) (b : List UInt8) (w : World) (hs : Sl w a n c (b.map byteV)) (hn : n ≤ 140737488355328) :
    Calls Tryz.prog 17 #[.slice a n c] w fun e w' => e = .returned (.tuple #[.int .u64 ((readP b).1 : Nat), .int .i64 ((readP b).2 : Nat)]) ∧ w = w' := by
  have hlen : b.length = n := by simpa using hs.len
  obtain ⟨r, hr⟩ : ∃ r, r = natGo 0 0 b := ⟨_, rfl⟩
  have hP : readP b = readQ n r := by rw [hr, ← hlen]; rfl
  obtain ⟨p, hp⟩ : ∃ p, p = readP b := ⟨_, rfl⟩
  rw [← hp] at hP ⊢
  have HP := Lib.hid hP
  have Hr := Lib.hid hr
  have Hlen := Lib.hid hlen
  clear hP hp hr hlen
  go_enter Tryz.func17, Tryz.ntmps17
  go_wp2_with fail
  go_loop [6, 4, 5] (fun i x u => ∃ (j m p : Nat), j ≤ 9 ∧ j ≤ n ∧ p = 2 ^ (7 * j) ∧ m < 2 ^ (7 * j) ∧ i = .int .i64 (j : Int) ∧ x = .int .u64 (m : Int) ∧ u = .int .u64 (p : Int) ∧ r = natGo j m (b.drop j))
    (fun i _ _ => 70 - (intOf i).toNat)
  case atStart => exact ⟨0, 0, 1, by omega, by omega, rfl, by simp, rfl, rfl, rfl, Hr.out⟩
  case round =>
    obtain ⟨j, m, u, hj, hjn, hu, hm, rfl, rfl, rfl, hval⟩ := hrel
    by_cases hlt : j < n
    · have hjb : j < b.length := by rw [Hlen.out]; exact hlt
      have hix := hs.ix (P := Tryz.prog) Tryz.underlying22 (by kernel_rfl) hlt .i64
      have hc := hs.at_ hlt
      obtain ⟨x, hx⟩ : ∃ x, x = b[j] := ⟨_, rfl⟩
      have hb : (b.map byteV).getD j undef = .int .u8 (x.toNat : Int) := by rw [hx]; simp [hjb, byteV]
      rw [hb] at hc
      have hx1 : (x.toNat : Int) < 256 := by have := x.toNat_lt; omega
      have hdrop : b.drop j = x :: b.drop (j + 1) := by rw [List.drop_eq_getElem_cons hjb, hx]
      rw [hdrop, natGo] at hval
      have hst := natStep_lt m x.toNat j hm
      obtain ⟨q, hq⟩ : ∃ q, q = x.toNat % 128 * 2 ^ (7 * j) := ⟨_, rfl⟩
      have e64 : (2 : Nat) ^ 64 = 18446744073709551616 := by decide
      have hq64 : q < 9223372036854775809 ∨ 1 < x.toNat ∧ j = 9 := by
        by_cases h9 : j = 9 ∧ 1 < x.toNat
        · exact .inr ⟨h9.2, h9.1⟩
        · left
          rw [hq]
          by_cases h : j = 9
          · subst h
            have : x.toNat % 128 * 2 ^ (7 * 9) ≤ 1 * 2 ^ (7 * 9) := Nat.mul_le_mul_right _ (by omega)
            have e : (2 : Nat) ^ (7 * 9) = 9223372036854775808 := by decide
            omega
          · have h1 : x.toNat % 128 * 2 ^ (7 * j) ≤ 127 * 2 ^ 56 := Nat.mul_le_mul (by omega) (Nat.pow_le_pow_right (by decide) (by omega))
            have e : (127 : Nat) * 2 ^ 56 < 9223372036854775808 := by decide
            omega
      have hm63 : m < 9223372036854775809 := by
        have : (2 : Nat) ^ (7 * j) ≤ 2 ^ (7 * 9) := Nat.pow_le_pow_right (by decide) (by omega)
        have e : (2 : Nat) ^ (7 * 9) = 9223372036854775808 := by decide
        omega
      have hqu : x.toNat % 128 * u = q := by rw [hq, hu]
      have hm2 : m + q < 2 ^ (7 * (j + 1)) := by rw [hq]; exact hst
      have hu2 : u * 128 = 2 ^ (7 * (j + 1)) := by rw [hu, show 7 * (j + 1) = 7 * j + 7 from by omega, Nat.pow_add]
      have huw : j < 9 → IntKind.u64.wrap ((u : Int) * 128) = ((2 ^ (7 * (j + 1)) : Nat) : Int) := by
        intro h
        have : (2 : Nat) ^ (7 * (j + 1)) ≤ 2 ^ 63 := Nat.pow_le_pow_right (by decide) (by omega)
        have e : (2 : Nat) ^ 63 = 9223372036854775808 := by decide
        rw [IntKind.wrap_u64, show (u : Int) * 128 = ((u * 128 : Nat) : Int) from by push_cast; rfl, hu2]
        omega
      have hwq : q < 9223372036854775809 → IntKind.u64.wrap ((x.toNat : Int) % 128 * (u : Int)) = (q : Int) := by
        intro h
        rw [show (x.toNat : Int) % 128 * (u : Int) = ((x.toNat % 128 * u : Nat) : Int) from by push_cast; rfl, hqu, IntKind.wrap_u64]
        omega
      have hws : q < 9223372036854775809 → m + q < 18446744073709551616 → IntKind.u64.wrap ((m : Int) + (q : Int)) = ((m + q : Nat) : Int) := by
        intro h h'
        rw [IntKind.wrap_u64]
        omega
      have hsum : m + q < 18446744073709551616 ∨ 1 < x.toNat ∧ j = 9 := by
        rcases hq64 with h | h
        · left
          by_cases h9 : j = 9
          · subst h9
            have e : (2 : Nat) ^ (7 * 9) = 9223372036854775808 := by decide
            omega
          · have : (2 : Nat) ^ (7 * (j + 1)) ≤ 2 ^ 63 := Nat.pow_le_pow_right (by decide) (by omega)
            have e : (2 : Nat) ^ 63 = 9223372036854775808 := by decide
            omega
        · exact .inr h
      have Hx := Lib.hid hx
      by_cases hbad : (j = 9 ∧ 1 < x.toNat) ∨ (0 < j ∧ x.toNat = 0)
      · rw [if_pos hbad] at hval
        have Hval := Lib.hid hval
        clear hval hx hb hdrop hst hq hu e64 hq64 hm63 hqu hm2 hu2 huw hwq hws hsum hm Hr
        rcases (show (j = 9 ∧ 1 < x.toNat) ∨ (j = 9 ∧ x.toNat = 0) ∨ (0 < j ∧ j < 9 ∧ x.toNat = 0) from by omega) with ⟨h9, hc0⟩ | ⟨h9, hc0⟩ | ⟨h0, h9, hc0⟩
        · have hc1 : (1 : Int) < (x.toNat : Int) := by omega
          have e9 : ((j : Int) == 9) = true := by rw [beq_iff_eq]; omega
          have hj10 : j < 10 := by omega
          clear h9
          go_wp2_with fail
          go_ret2
          rw [HP.out, Hval.out]
          exact ⟨rfl, rfl⟩
        · have e0 : ((x.toNat : Int) == 0) = true := by rw [beq_iff_eq]; omega
          have e1 : ¬ (1 : Int) < (x.toNat : Int) := by omega
          have e9 : ((j : Int) == 9) = true := by rw [beq_iff_eq]; omega
          have hj10 : j < 10 := by omega
          have hj0 : 0 < j := by omega
          clear hc0 h9
          go_wp2_with fail
          go_ret2
          rw [HP.out, Hval.out]
          exact ⟨rfl, rfl⟩
        · have e0 : ((x.toNat : Int) == 0) = true := by rw [beq_iff_eq]; omega
          have e1 : ((j : Int) == 9) = false := by rw [beq_eq_false_iff_ne]; omega
          clear hc0
          go_wp2_with fail
          go_ret2
          rw [HP.out, Hval.out]
          exact ⟨rfl, rfl⟩
      · rw [if_neg hbad, ← hq] at hval
        have hq6 : q < 9223372036854775809 := by omega
        have hws2 := hws hq6 (by omega)
        have hwq2 := hwq hq6
        have Hval := Lib.hid hval
        have Hm2 := Lib.hid hm2
        clear hval hx hb hdrop hst hq hu e64 hq64 hm63 hqu hm2 hu2 hwq hws hsum hm Hr hq6
        by_cases hc128 : x.toNat < 128
        · have hc1 : (x.toNat : Int) < 128 := by omega
          have HC := Lib.hid hc128
          clear huw hc128
          rcases (show (j = 9 ∧ x.toNat = 1) ∨ (j = 0) ∨ (0 < j ∧ j < 9 ∧ 0 < x.toNat) from by omega) with ⟨h9, hc0⟩ | h9 | ⟨h0, h9, hc0⟩
          · have e0 : ((x.toNat : Int) == 0) = false := by rw [beq_eq_false_iff_ne]; omega
            have e1 : ¬ (1 : Int) < (x.toNat : Int) := by omega
            have e9 : ((j : Int) == 9) = true := by rw [beq_iff_eq]; omega
            have hj10 : j < 10 := by omega
            have hj0 : 0 < j := by omega
            clear hc0 h9
            go_wp2_with fail
            go_ret2
            rw [HP.out, Hval.out, if_pos HC.out]
            have hl : n - (b.drop (j + 1)).length = j + 1 := by rw [List.length_drop, Hlen.out]; omega
            unfold readQ
            simp only []
            rw [hl]
            exact ⟨rfl, by first | rfl | trivial⟩
          · have e1 : ((j : Int) == 9) = false := by rw [beq_eq_false_iff_ne]; omega
            have hj0 : ¬ 0 < j := by omega
            clear h9
            go_wp2_with fail
            go_ret2
            rw [HP.out, Hval.out, if_pos HC.out]
            have hl : n - (b.drop (j + 1)).length = j + 1 := by rw [List.length_drop, Hlen.out]; omega
            unfold readQ
            simp only []
            rw [hl]
            exact ⟨rfl, by first | rfl | trivial⟩
          · have e0 : ((x.toNat : Int) == 0) = false := by rw [beq_eq_false_iff_ne]; omega
            have e1 : ((j : Int) == 9) = false := by rw [beq_eq_false_iff_ne]; omega
            clear hc0
            go_wp2_with fail
            go_ret2
            rw [HP.out, Hval.out, if_pos HC.out]
            have hl : n - (b.drop (j + 1)).length = j + 1 := by rw [List.length_drop, Hlen.out]; omega
            unfold readQ
            simp only []
            rw [hl]
            exact ⟨rfl, by first | rfl | trivial⟩
        · have huw2 := huw (by omega)
          have e0 : ((x.toNat : Int) == 0) = false := by rw [beq_eq_false_iff_ne]; omega
          have e1 : ((j : Int) == 9) = false := by rw [beq_eq_false_iff_ne]; omega
          have hc1 : ¬ (x.toNat : Int) < 128 := by omega
          have HC := Lib.hid hc128
          obtain ⟨u2, hu2⟩ : ∃ u2, u2 = 2 ^ (7 * (j + 1)) := ⟨_, rfl⟩
          rw [← hu2] at huw2
          have Hu2 := Lib.hid hu2
          have hj9 : j < 9 := by omega
          clear huw hc128 hbad hu2
          by_cases hj0 : 0 < j
          all_goals
           go_wp2_with fail
           go_round
           case rel => exact ⟨j + 1, m + q, u2, by omega, by omega, Hu2.out, Hm2.out, by go_num, by go_num, by first | rfl | trivial, by rw [Hval.out, if_neg HC.out]⟩
           case measure => simp [intOf]; omega
    · obtain rfl : n = j := by omega
      rw [List.drop_of_length_le (by rw [Hlen.out]; exact Nat.le_refl _), natGo] at hval
      go_wp2_with fail
      go_ret2
      rw [HP.out, hval]
      exact ⟨rfl, rfl⟩
end Go.Proofs.YthbipcjgpocpaaaGreat
