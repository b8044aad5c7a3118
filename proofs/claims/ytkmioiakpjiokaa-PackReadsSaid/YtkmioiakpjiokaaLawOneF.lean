/- What must be answered ahead of everything else (layer 1). -/
import Derived.Test.YtkmioiakpjiokaaPackT
import Derived.Lib.SlBytesConst
namespace Go.Proofs.Ytkmioiakpjiokaa
open Go.RowKit
set_option linter.unusedSimpArgs false
set_option linter.unusedVariables false

theorem strE {w : World} {a : Option Addr} {n c : Nat} {b : List UInt8} (h : Sl w a n c (b.map byteV)) : (convert 22 9 (.slice a n c)).run Try.prog w = .ok (.string ⟨b.toArray⟩) w :=
  h.str 22 9 5 Try.underlying22 Try.underlying5 Try.underlying9
theorem strK {w : World} {a : Option Addr} {n c : Nat} {b : List UInt8} (h : Sl w a n c (b.map byteV)) : ∀ wx, Keeps No w wx → (convert 22 9 (.slice a n c)).run Try.prog wx = .ok (.string ⟨b.toArray⟩) wx :=
  fun _ hx => strE (h.kept hx)

theorem nat7_300 : nat7 300 = [172, 2] := by rw [nat7_step (by decide), nat7_low (by decide)]; rfl
theorem nat7_5 : nat7 5 = [5] := nat7_low (by decide)
theorem nat7_2 : nat7 2 = [2] := nat7_low (by decide)

set_option maxRecDepth 100000 in
set_option maxHeartbeats 1000000 in
theorem first01_any (w : World) :
    Calls Try.prog 8 #[] w fun e w' => e = .returned (.bool true) ∧ Keeps No w w' := by
  go_enter Try.func8, Try.ntmps8
  go_wp2_with fail
  refine (open_any _ 2 2 [128, 0] _ (Sl.lit w #[.int .u8 128, .int .u8 0] 5 _ rfl 2 rfl (by decide)) (by decide)).mono ?_
  rintro e w1 ⟨b, sb, rfl, hr, hb1, hb2, hb3, hb4, hk1⟩
  go_wp2_with fail
  refine (rnatural_any b sb (some [128, 0]) _ hr).mono ?_
  rw [show rdNat (some [128, 0]) = none from by decide]
  rintro e w2 ⟨rfl, ⟨xs, hr2⟩, hk2⟩
  have hk12 : Keeps No w w2 := hk1.ofAlloc.trans hk2 (fun i hi hS => by simp at hb1; omega)
  go_wp2_with fail
  refine (number_any none 0 0 [] (-3) _ (Sl.none _) (by decide) (by decide)).mono ?_
  rintro e w3 ⟨v3, rfl, hown3, hk3⟩
  rw [show fold (-3) = 5 from by decide, nat7_5] at hown3
  obtain ⟨a3, c3, rfl, hs3, _⟩ := Sl.ofOwn (k := 1) hown3
  have e3 := strE hs3
  clear hown3
  have hr3 := hr2.keep hk3 (not_No _) (not_No _)
  go_wp2_with fail
  refine (natural_any none 0 0 [] 300 _ (Sl.none _) (by decide) (by decide)).mono ?_
  rintro e w4 ⟨v4, rfl, hown4, hk4⟩
  rw [nat7_300] at hown4
  obtain ⟨a4, c4, rfl, hs4, _⟩ := Sl.ofOwn (k := 2) hown4
  have e4 := strE hs4
  clear hown4
  have hr4 := hr3.keep hk4 (not_No _) (not_No _)
  have kc := fun (w : World) (C : Array Value) (n c : Nat) => Lib.run_convert_bytes_const (P := Try.prog) w 22 5 C n c Try.underlying22 Try.underlying5
  go_wp2_with fail
  refine (text_any _ 1 1 [120] ⟨#[97, 98]⟩ _ (Sl.litF w4 #[.int .u8 120] 5 (1, 2) _ rfl 1 rfl (by decide)) (by decide)).mono ?_
  rintro e w5 ⟨v5, rfl, hown5, hk5⟩
  rw [show (⟨#[97, 98]⟩ : ByteArray).size = 2 from rfl, nat7_2] at hown5
  obtain ⟨a5, c5, rfl, hs5, _⟩ := Sl.ofOwn (k := 4) hown5
  have e5 := strE hs5
  clear hown5
  have hr5 := hr4.keep hk5.ofAlloc (not_No _) (not_No _)
  go_wp2_with fail
  refine (done_any b sb none _ ⟨_, hr5⟩).mono ?_
  rintro e w6 ⟨rfl, rfl⟩
  go_wp2_with fail
  go_ret
  exact ⟨ret_bool (by decide), hk12.transNo (hk3.transNo (hk4.transNo hk5.ofAlloc))⟩
end Go.Proofs.Ytkmioiakpjiokaa
