/- The walk of the law PackLong. -/
import Derived.Test.YtkmioiakpjiokaaLawOneF
namespace Go.Proofs.Ytkmioiakpjiokaa
open Go.RowKit
set_option linter.unusedSimpArgs false
set_option linter.unusedVariables false

theorem nat7_mono (k : Nat) : ∀ a b, a ≤ k → b ≤ a → (nat7 b).length ≤ (nat7 a).length := by
  induction k with
  | zero => intro a b ha hb; rw [show b = a from by omega]; exact Nat.le_refl _
  | succ k ih =>
    intro a b ha hb
    by_cases hb1 : b < 128
    · rw [nat7_low hb1]
      by_cases ha1 : a < 128
      · rw [nat7_low ha1]; exact Nat.le_refl _
      · rw [nat7_step (by omega)]; simp
    · rw [nat7_step (by omega), nat7_step (n := a) (by omega)]
      have := ih (a / 128) (b / 128) (by omega) (by omega)
      simp; omega
theorem nat7_inj (k : Nat) : ∀ a b, a ≤ k → nat7 a = nat7 b → a = b := by
  induction k with
  | zero =>
    intro a b ha h
    obtain rfl : a = 0 := by omega
    by_cases hb : b < 128
    · rw [nat7_low (by omega), nat7_low hb] at h
      simp only [List.cons.injEq, and_true] at h
      have := congrArg UInt8.toNat h
      simp only [UInt8.toNat_ofNat'] at this
      omega
    · rw [nat7_low (by omega), nat7_step (by omega)] at h
      simp only [List.cons.injEq] at h
      have := congrArg UInt8.toNat h.1
      simp only [UInt8.toNat_ofNat'] at this
      omega
  | succ k ih =>
    intro a b ha h
    by_cases ha1 : a < 128
    · by_cases hb : b < 128
      · rw [nat7_low ha1, nat7_low hb] at h
        simp only [List.cons.injEq, and_true] at h
        have := congrArg UInt8.toNat h
        simp only [UInt8.toNat_ofNat'] at this
        omega
      · rw [nat7_low ha1, nat7_step (by omega)] at h
        simp only [List.cons.injEq] at h
        have := congrArg UInt8.toNat h.1
        simp only [UInt8.toNat_ofNat'] at this
        omega
    · by_cases hb : b < 128
      · rw [nat7_low hb, nat7_step (by omega)] at h
        simp only [List.cons.injEq] at h
        have := congrArg UInt8.toNat h.1
        simp only [UInt8.toNat_ofNat'] at this
        omega
      · rw [nat7_step (by omega), nat7_step (n := b) (by omega)] at h
        simp only [List.cons.injEq] at h
        have h1 := congrArg UInt8.toNat h.1
        simp only [UInt8.toNat_ofNat'] at h1
        have h2 := ih (a / 128) (b / 128) (by omega) h.2
        omega

set_option maxRecDepth 100000 in
set_option maxHeartbeats 4000000 in
theorem packLong_any (x y : Int) (s : ByteArray) (w : World) (hx : (Lit.int .u64 x).wf = true) (hy : (Lit.int .u64 y).wf = true) (hz : s.size ≤ 140737488351232) :
    Calls Try.prog 4 #[.int .u64 x, .int .u64 y, .string s] w fun e w' => e = .returned (.bool true) ∧ Keeps No w w' := by
  obtain ⟨a, rfl, ha⟩ := wf_u64_nat hx
  obtain ⟨b, rfl, hb⟩ := wf_u64_nat hy
  have hla := nat7_len64 a ha
  have hlb := nat7_len64 b hb
  have hls := nat7_len64 s.size (by omega)
  have Ha := Lib.hid ha
  have Hb := Lib.hid hb
  clear hx hy ha hb
  go_enter Try.func4, Try.ntmps4
  go_wp2_with fail
  refine (first01_any _).mono ?_
  rintro e w1 ⟨rfl, hk1⟩
  by_cases hbig : s.size ≤ 2000
  case neg =>
    go_wp2_with fail
    go_ret
    exact ⟨rfl, hk1⟩
  go_wp2_with fail
  go_loop [7, 8] (fun n x => ∃ (k m : Nat), n = .int .i64 (k : Int) ∧ x = .int .u64 (m : Int) ∧ m ≤ a ∧ k + (nat7 m).length = (nat7 a).length + 1) (fun _ x => (intOf x).toNat)
  case atStart => exact ⟨1, a, rfl, rfl, Nat.le_refl _, by omega⟩
  case round =>
    obtain ⟨k, m, rfl, rfl, hm, hkm⟩ := hrel
    have hk10 : k ≤ 11 := by omega
    have Hkm := Lib.hid hkm
    clear hkm
    by_cases hlt : 127 < m
    · have hwr : IntKind.u64.wrap ((m : Int) / 128) = ((m / 128 : Nat) : Int) := by have := Ha.out; rw [IntKind.wrap_u64]; omega
      go_wp2_with fail
      go_round
      case rel => exact ⟨k + 1, m / 128, by go_num, by go_num, by omega, by have := Hkm.out; rw [nat7_step (by omega)] at this; simp at this; omega⟩
      case measure => simp [intOf]; omega
    · have hk : k = (nat7 a).length := by have := Hkm.out; rw [nat7_low (by omega)] at this; simp at this; omega
      subst hk
      go_wp2_with fail
      refine (natural_any none 0 0 [] a _ (Sl.none _) (by decide) Ha.out).mono ?_
      rintro e w2 ⟨v2, rfl, hown2, hk2⟩
      rw [Nat.zero_add, List.nil_append] at hown2
      obtain ⟨a2, c2, rfl, hs2, _⟩ := Sl.ofOwn hown2
      clear hown2
      go_wp2_with fail
      refine (natural_any none 0 0 [] b _ (Sl.none _) (by decide) Hb.out).mono ?_
      rintro e w3 ⟨v3, rfl, hown3, hk3⟩
      rw [Nat.zero_add, List.nil_append] at hown3
      obtain ⟨a3, c3, rfl, hs3, _⟩ := Sl.ofOwn hown3
      clear hown3
      have e2 := strE (hs2.kept hk3)
      have e3 := strE hs3
      have hk : Keeps No w w3 := hk1.transNo (hk2.transNo hk3)
      have hs64 : IntKind.u64.wrap (s.size : Int) = (s.size : Int) := by rw [IntKind.wrap_u64]; omega
      rcases (show b < a ∨ a = b ∨ a < b from by omega) with hab | hab | hab
      · have h1 : (nat7 a == nat7 b) = false := by rw [beq_eq_false_iff_ne]; intro h; have := nat7_inj a a b (Nat.le_refl _) h; omega
        have h2 : ((a : Int) == (b : Int)) = false := by rw [beq_eq_false_iff_ne]; omega
        go_wp2_with fail
        refine (text_any none 0 0 [] s _ (Sl.none _) (by omega)).mono ?_
        rintro e w4 ⟨v4, rfl, hown4, hk4⟩
        rw [Nat.zero_add] at hown4
        obtain ⟨a4, c4, rfl, hs4, _⟩ := Sl.ofOwn hown4
        clear hown4
        go_wp2_with fail
        refine (natural_any none 0 0 [] s.size _ (Sl.none _) (by decide) (by omega)).mono ?_
        rintro e w5 ⟨v5, rfl, hown5, hk5⟩
        rw [Nat.zero_add, List.nil_append] at hown5
        obtain ⟨a5, c5, rfl, hs5, _⟩ := Sl.ofOwn hown5
        clear hown5
        go_wp2_with fail
        go_ret
        exact ⟨ret_bool (by simp), hk.transNo (hk4.transNo hk5)⟩
      · subst hab
        go_wp2_with fail
        refine (text_any none 0 0 [] s _ (Sl.none _) (by omega)).mono ?_
        rintro e w4 ⟨v4, rfl, hown4, hk4⟩
        rw [Nat.zero_add] at hown4
        obtain ⟨a4, c4, rfl, hs4, _⟩ := Sl.ofOwn hown4
        clear hown4
        go_wp2_with fail
        refine (natural_any none 0 0 [] s.size _ (Sl.none _) (by decide) (by omega)).mono ?_
        rintro e w5 ⟨v5, rfl, hown5, hk5⟩
        rw [Nat.zero_add, List.nil_append] at hown5
        obtain ⟨a5, c5, rfl, hs5, _⟩ := Sl.ofOwn hown5
        clear hown5
        go_wp2_with fail
        go_ret
        exact ⟨ret_bool (by simp), hk.transNo (hk4.transNo hk5)⟩
      · have h1 : (nat7 a == nat7 b) = false := by rw [beq_eq_false_iff_ne]; intro h; have := nat7_inj a a b (Nat.le_refl _) h; omega
        have h2 : ((a : Int) == (b : Int)) = false := by rw [beq_eq_false_iff_ne]; omega
        have h3 := nat7_mono b b a (Nat.le_refl _) (by omega)
        go_wp2_with fail
        refine (text_any none 0 0 [] s _ (Sl.none _) (by omega)).mono ?_
        rintro e w4 ⟨v4, rfl, hown4, hk4⟩
        rw [Nat.zero_add] at hown4
        obtain ⟨a4, c4, rfl, hs4, _⟩ := Sl.ofOwn hown4
        clear hown4
        go_wp2_with fail
        refine (natural_any none 0 0 [] s.size _ (Sl.none _) (by decide) (by omega)).mono ?_
        rintro e w5 ⟨v5, rfl, hown5, hk5⟩
        rw [Nat.zero_add, List.nil_append] at hown5
        obtain ⟨a5, c5, rfl, hs5, _⟩ := Sl.ofOwn hown5
        clear hown5
        go_wp2_with fail
        go_ret
        exact ⟨ret_bool (by simp), hk.transNo (hk4.transNo hk5)⟩
end Go.Proofs.Ytkmioiakpjiokaa
