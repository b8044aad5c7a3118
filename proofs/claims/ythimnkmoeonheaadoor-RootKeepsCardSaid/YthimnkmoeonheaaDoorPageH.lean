/- The walk of page.Handle. -/
import Derived.Test.YthimnkmoeonheaaDoorPage
namespace Go.Proofs.YthimnkmoeonheaaDoor
open Go.RowKit
set_option linter.unusedSimpArgs false
set_option linter.unusedVariables false
set_option maxRecDepth 100000

theorem bits_or_u64P (a b : Nat) (ha : a < 18446744073709551616) (hb : b < 18446744073709551616) : bits .or .u64 (a : Int) (b : Int) = ((a ||| b : Nat) : Int) := by
  have hx : a ||| b < 2 ^ 64 := Nat.or_lt_two_pow (by omega) (by omega)
  have h1 : (BitVec.ofInt 64 (a : Int)).toNat = a := by rw [BitVec.ofInt_natCast, BitVec.toNat_ofNat]; exact Nat.mod_eq_of_lt (by omega)
  have h2 : (BitVec.ofInt 64 (b : Int)).toNat = b := by rw [BitVec.ofInt_natCast, BitVec.toNat_ofNat]; exact Nat.mod_eq_of_lt (by omega)
  show IntKind.u64.wrap ((BitVec.ofInt 64 (a : Int) ||| BitVec.ofInt 64 (b : Int)).toNat : Int) = _
  rw [BitVec.toNat_or, h1, h2, IntKind.wrap_u64]
  omega
theorem hUp_or (b : List UInt8) (k : Nat) (hk : k < 8) : bits .or .u64 (hUp b k : Int) (((b.getD k 0).toNat * 2 ^ (8 * k) : Nat) : Int) = (hUp b (k + 1) : Int) := by
  have h1 := hUp_lt b k
  have h2 := hUp_lt b (k + 1)
  have hle : 2 ^ (8 * (k + 1)) ≤ 2 ^ 64 := Nat.pow_le_pow_right (by decide) (by omega)
  have h3 : (b.getD k 0).toNat * 2 ^ (8 * k) ≤ hUp b (k + 1) := Nat.le_add_left _ _
  have h4 : hUp b k ≤ hUp b (k + 1) := Nat.le_add_right _ _
  rw [bits_or_u64P _ _ (by omega) (by omega)]
  congr 1
  rw [Nat.or_comm, Nat.mul_comm, ← Nat.two_pow_add_eq_or_of_lt h1]
  show _ = hUp b k + (b.getD k 0).toNat * 2 ^ (8 * k)
  rw [Nat.mul_comm]; omega

set_option maxHeartbeats 1000000 in
theorem handle_any (a : Option Addr) (n c : Nat) (b : List UInt8) (w : World) (hs : Sl w a n c (b.map byteV)) :
    Calls Tryd.prog 19 #[.slice a n c] w fun e w' => e = .returned (.tuple #[.int .u64 ((handleA b).1 : Int), .bool (handleA b).2]) ∧ Keeps No w w' := by
  have hlen : b.length = n := by simpa using hs.len
  have hwm := hs.max
  have hwl := hs.le
  unfold maxLen at hwm
  obtain ⟨R, hR⟩ : ∃ R, R = handleA b := ⟨_, rfl⟩
  rw [← hR]
  unfold handleA at hR
  rw [hlen] at hR
  have Hlen := Lib.hid hlen
  have HR := Lib.hid hR
  clear hlen hR
  go_enter Tryd.func19, Tryd.ntmps19
  by_cases h16 : n = 16
  case neg =>
    have q1 : ((n : Int) == 16) = false := by rw [beq_eq_false_iff_ne]; omega
    have q2 : ((n : Int) != 16) = true := by rw [bne, q1]; rfl
    have HN := Lib.hid h16
    clear h16
    go_wp2_with fail
    go_ret2
    rw [HR.out, if_neg (fun h => HN.out h.1)]
    exact ⟨rfl, Keeps.refl _ _⟩
  subst h16
  obtain ⟨a2, f1, f2, hs2, -⟩ := hs.from_ (P := Tryd.prog) Tryd.underlying35 (by kernel_rfl) (k := 8) (by omega) .i64 8 rfl
  rw [← List.map_drop] at hs2
  simp only [Nat.reduceSub] at f1 f2 hs2
  go_wp2_with fail
  refine (trim_any _ _ _ _ _ hs2).mono ?_
  rintro e w1 ⟨a', n', c', rfl, hn', hiff, hk1⟩
  by_cases h0 : n' = 0
  case neg =>
    have q1 : decide ((0 : Int) < (n' : Int)) = true := by simp; omega
    have q2 : 0 < n' := by omega
    have Hn := Lib.hid (fun h => h0 (hiff.2 h))
    clear h0 hiff
    go_wp2_with fail
    go_ret2
    rw [HR.out, if_neg (fun h => Hn.out h.2)]
    exact ⟨rfl, hk1⟩
  have Hz := Lib.hid (hiff.1 h0)
  clear hiff
  subst h0
  go_wp2_with fail
  go_loopg [4, 16] 8 (fun q v i wr => ∃ k : Nat, k ≤ 8 ∧ q = 8 - k ∧ i = .int .i64 (k : Int) ∧ v = .int .u64 (hUp b k : Int) ∧ Keeps No w wr)
  case atStart => exact ⟨0, by omega, rfl, rfl, rfl, hk1⟩
  case round =>
    obtain ⟨k, hk, hq, rfl, rfl, hkr⟩ := hrel
    have Hq := Lib.hid hq
    clear hq
    by_cases hlt : k < 8
    · have hix := hs.ix (P := Tryd.prog) Tryd.underlying35 (by kernel_rfl) (i := k) (by omega) .i64
      have hcm := (hs.kept hkr).at_ (i := k) (by omega)
      have hbv : (b.map byteV).getD k undef = .int .u8 ((b.getD k 0).toNat : Int) := by simp [show k < b.length from by rw [Hlen.out]; omega, byteV]
      rw [hbv] at hcm
      have hor := hUp_or b k hlt
      have hx := (b.getD k 0).toNat_lt
      have hv : bits BinOp.or IntKind.u64 (hUp b k : Int) (IntKind.u64.wrap (IntKind.u64.wrap ((b[k]?.getD 0).toNat : Int) * 2 ^ (8 * k))) = (hUp b (k + 1) : Int) := by
        rw [List.getD_eq_getElem?_getD] at hor hx
        have h3 : (b[k]?.getD 0).toNat * 2 ^ (8 * k) < 18446744073709551616 := by
          have h1 : 2 ^ (8 * k) ≤ 2 ^ 56 := Nat.pow_le_pow_right (by decide) (by omega)
          have h2 : (b[k]?.getD 0).toNat * 2 ^ (8 * k) ≤ 255 * 2 ^ 56 := Nat.mul_le_mul (by omega) h1
          omega
        rw [← hor]
        congr 1
        have e0 : IntKind.u64.wrap ((b[k]?.getD 0).toNat : Int) = ((b[k]?.getD 0).toNat : Int) := by rw [IntKind.wrap_u64]; omega
        rw [e0, IntKind.wrap_u64]
        have e : ((b[k]?.getD 0).toNat : Int) * 2 ^ (8 * k) = (((b[k]?.getD 0).toNat * 2 ^ (8 * k) : Nat) : Int) := by
          rw [Int.natCast_mul, Int.natCast_pow]; rfl
        rw [e, Int.emod_eq_of_lt (by omega) (by omega)]
      have HV := Lib.hid hv
      clear hor hv
      go_wp2_with fail
      go_roundg (8 - (k + 1))
      case measure => have := Hq.out; omega
      case rel => exact ⟨k + 1, by omega, rfl, by go_num, by rw [HV.out], hkr⟩
    · obtain rfl : k = 8 := by omega
      have hup := hUp_hOf b (by rw [Hlen.out]; decide)
      rw [hup]
      have hlt64 := hOf_lt b (by rw [Hlen.out]; decide)
      have hfin : R = (hOf b, decide (hOf b ≠ 0)) := by rw [HR.out, if_pos ⟨trivial, Hz.out⟩]
      have Hfin := Lib.hid hfin
      generalize hOf b = h at Hfin hlt64 ⊢
      clear hup hfin
      by_cases h0 : h = 0
      · subst h0
        go_wp2_with fail
        go_ret2
        exact ⟨by rw [Hfin.out]; rfl, hkr⟩
      · have q1 : ((h : Int) == 0) = false := by rw [beq_eq_false_iff_ne]; omega
        have q2 : ((h : Int) != 0) = true := by rw [bne, q1]; rfl
        have hd : decide (h ≠ 0) = true := by simpa using h0
        have Hd := Lib.hid hd
        clear hd h0
        go_wp2_with fail
        go_ret2
        exact ⟨by rw [Hfin.out, Hd.out]; rfl, hkr⟩
end Go.Proofs.YthimnkmoeonheaaDoor
