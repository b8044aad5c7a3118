/- The walks of the document's answer for layer 1: Natural and Folded, each once. -/
import Derived.Test.YthbipcjgpocpaaaGreatPackW
namespace Go.Proofs.YthbipcjgpocpaaaGreat
open Go.RowKit
set_option linter.unusedSimpArgs false
set_option linter.unusedVariables false
set_option maxRecDepth 100000

theorem owns_one (w : World) (base : Nat) (e : TypeId) (v : Value) (hb : base ≤ w.heap.size) : (w.alloc (.cells #[v] e)).ownsRow base e 1 (.slice (some ⟨w.heap.size, 0, none⟩) 1 1) 1 [v] :=
  World.ownsRow_lit w #[v] 1 hb (by unfold maxLen; omega) (by simp)

set_option maxRecDepth 100000 in
set_option maxHeartbeats 1000000 in
theorem refNatural_any (k : Nat) : ∀ (x : Nat) (w : World), x < 128 ^ (k + 1) → k ≤ 9 → x < 18446744073709551616 →
    Calls Tryz.prog 42 #[.int .u64 (x : Int)] w fun e w' =>
      ∃ v, e = .returned v ∧ w'.ownsRow w.heap.size 5 1 v (nat7 x).length ((nat7 x).map byteV) ∧ Keeps No w w' := by
  induction k with
  | zero =>
    intro x w hx hk h64
    have hlt : x < 128 := by simpa using hx
    have H64 := Lib.hid h64
    clear hx h64
    go_enter Tryz.func42, Tryz.ntmps42
    go_wp2_with fail
    go_ret
    have e : byteV (UInt8.ofNat x) = .int .u8 (x : Int) := by unfold byteV; rw [UInt8.toNat_ofNat']; congr 1; omega
    refine ⟨.slice (some ⟨w.heap.size, 0, none⟩) 1 1, rfl, ?_, (Keeps.refl _ _).alloc _⟩
    rw [nat7_low hlt, List.map_cons, List.map_nil, e]
    exact owns_one w _ _ _ (Nat.le_refl _)
  | succ k ih =>
    intro x w hx hk h64
    have h10 := nat7_len64 x h64
    have hx2 : x / 128 < 128 ^ (k + 1) := by rw [Nat.div_lt_iff_lt_mul (by decide)]; rw [Nat.pow_succ] at hx; exact hx
    have hx3 : x / 128 < 18446744073709551616 := by omega
    have hwr : IntKind.u64.wrap ((x : Int) / 128) = ((x / 128 : Nat) : Int) := by rw [IntKind.wrap_u64]; omega
    have H2 := Lib.hid hx2
    have H3 := Lib.hid hx3
    have Ih := Lib.hid ih
    clear hx h64 hx2 hx3 ih
    by_cases hlt : x < 128
    · go_enter Tryz.func42, Tryz.ntmps42
      go_wp2_with fail
      go_ret
      have e : byteV (UInt8.ofNat x) = .int .u8 (x : Int) := by unfold byteV; rw [UInt8.toNat_ofNat']; congr 1; omega
      refine ⟨.slice (some ⟨w.heap.size, 0, none⟩) 1 1, rfl, ?_, (Keeps.refl _ _).alloc _⟩
      rw [nat7_low hlt, List.map_cons, List.map_nil, e]
      exact owns_one w _ _ _ (Nat.le_refl _)
    · have hstep := nat7_step (n := x) (by omega)
      have Hs := Lib.hid hstep
      have hl : (nat7 (x / 128)).length + 1 ≤ 10 := by rw [hstep] at h10; simpa using h10
      clear hstep
      go_enter Tryz.func42, Tryz.ntmps42
      go_wp2_with fail
      refine (Ih.out (x / 128) _ H2.out (by omega) H3.out).mono ?_
      rintro e w1 ⟨v1, rfl, hown1, hk1⟩
      obtain ⟨a1, c1, rfl, hs1, _⟩ := Sl.ofOwn hown1
      clear hown1
      have hown := hk1.own (owns_one w w.heap.size 5 (.int .u8 (128 + (x : Int) % 128)) (Nat.le_refl _)) (fun _ _ => not_No _)
      go_wp2_with (at_builtin; refine app_own rfl _ _ 22 rfl w.heap.size 5 (.int .u8 0) 1 Tryz.underlying22 byte_info rfl (by decide) _ 1 _ rfl hown _ _ _ _ rfl hs1 ?h1 ?hb ?hB ?_)
      case h1 => exact byteV_one _
      case hb => omega
      case hB => have := hk1.size; simp at this; omega
      intro v2 w2 hown2 hg2
      go_wp2_with fail
      go_ret
      refine ⟨v2, rfl, ?_, hk1.ofAlloc.grown hg2 (fun k hk hlt => absurd hlt (by simp [Value.ownBlock] at hk; omega))⟩
      rw [Hs.out, List.length_cons, List.map_cons, show byteV (UInt8.ofNat (128 + x % 128)) = .int .u8 (128 + (x : Int) % 128) from by unfold byteV; rw [UInt8.toNat_ofNat']; congr 1; omega]
      rw [Nat.add_comm] at hown2
      exact hown2

theorem refNat_any (x : Nat) (w : World) (h : x < 18446744073709551616) :
    Calls Tryz.prog 42 #[.int .u64 (x : Int)] w fun e w' =>
      ∃ v, e = .returned v ∧ w'.ownsRow w.heap.size 5 1 v (nat7 x).length ((nat7 x).map byteV) ∧ Keeps No w w' :=
  refNatural_any 9 x w (by have e : (128 : Nat) ^ (9 + 1) = 1180591620717411303424 := by decide
                           omega) (by omega) h

set_option maxRecDepth 100000 in
theorem folded_any (x : Int) (w : World) (hx : (Lit.int .i64 x).wf = true) :
    Calls Tryz.prog 77 #[.int .i64 x] w fun e w' => e = .returned (.int .u64 (fold x : Nat)) ∧ w = w' := by
  have hw := wf_i64_iff hx
  have Hw := Lib.hid hw
  clear hw hx
  by_cases h0 : 0 ≤ x
  · go_enter Tryz.func77, Tryz.ntmps77
    go_wp2_with fail
    go_ret
    refine ⟨ret_num ?_, rfl⟩
    have := Hw.out
    simp only [IntKind.wrap_u64]
    unfold fold
    rw [if_pos h0]
    omega
  · go_enter Tryz.func77, Tryz.ntmps77
    go_wp2_with fail
    go_ret
    refine ⟨ret_num ?_, rfl⟩
    have := Hw.out
    simp only [IntKind.wrap_u64, wrap64]
    unfold fold
    rw [if_neg (by omega)]
    omega
end Go.Proofs.YthbipcjgpocpaaaGreat
