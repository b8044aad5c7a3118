/- The law VaultPlays holds of every input: the row, out of its walk. No condition narrows it. -/
import Derived.Test.YtpceigiofbeihaaRows
import Derived.Test.YtpceigiofbeihaaRowKit
import Derived.Test.YtpceigiofbeihaaRowGen
import Derived.Test.YtpceigiofbeihaaLawVaultPlays
import Derived.ChangeOld
namespace Go.Proofs.Ytpceigiofbeihaa.vaultPlays
open Go.ChangeShapes Go.WideShapes Go.ChangeAt Go.RowKit
open Go.ChangeMaps (open_string shut_string)
set_option linter.unusedVariables false
set_option linter.unusedSimpArgs false
theorem own : ownKnob Try.prog.godebug = none := by kernel_rfl
theorem laidOut : laidOutB Try.prog = true := by kernel_rfl
set_option maxRecDepth 100000 in
theorem lifted (os : Os) (started : os.Started) (H : Type) (enc : TypeId × Value → H) :
    ReturnsInHanded {} Try.checked os 7 .any (Rows.vaultPlaysSpec.pre6 enc Try.prog Try.f7 Rows.vaultPlaysRow.domain false) (Rows.vaultPlaysSpec.post enc Try.prog Try.f7 false true false false) := by
  refine returnsInHanded_of_change_sized (C := Try.checked) own started (by kernel_rfl) Try.func7
    (ChangeSpec.witness6 (enc := enc) (C := Try.checked) false ⟨#[], #[.slice none 0 0], []⟩ 8 (by kernel_rfl) (by kernel_rfl) (by kernel_rfl) (by kernel_rfl)) ?_
  intro W base args ds gs before hval0 hW hcnd hsz0 _
  have hsz : (DataW.weightsEach Try.prog (Try.f7.params.toList ++ Rows.vaultPlaysSpec.plain.varTypes Try.prog) (ds ++ gs)).all (· ≤ reachBytes) = true := hsz0
  have hval : ∀ (j : Nat) t v, Try.f7.params[j]? = some t → args[j]? = some v → Value.okWide Try.prog W .any base t v := hval0
  have hW' := hW
  obtain ⟨p, q, hA0, hV, rfl, hfz, hnd⟩ := hW
  have hA : DataW.TrodAll enc Try.prog W 0 (fun _ => true) true Try.f7.params.toList args.toList ds p := hA0
  rw [Try.params7] at hA hval hsz
  obtain ⟨v0, vs0, d0, ds0, p0, q0, hargs, rfl, rfl, h0, r0⟩ := trodAll_cons hA
  obtain ⟨rfl, rfl, rfl⟩ := trodAll_nil r0
  obtain rfl : args = #[v0] := by cases args; simp_all
  obtain ⟨rfl, rfl⟩ := trodVars_none hV
  obtain ⟨a0, n0, c0, rfl⟩ := okWide_slice Try.underlying58 (hval 0 58 v0 rfl rfl)
  have k0 := h0
  have lt0 : ∀ x ∈ p0, x.block < W.heap.size := by obtain ⟨m, hm⟩ := k0; exact DataW.trod_lt m _ _ _ hm
  obtain ⟨fuel0, hf0⟩ := h0
  obtain ⟨l0, s0, g0, y0⟩ := arg_slice_R (⟨0, by decide⟩, (⟨0, by decide⟩, ⟨0, by decide⟩, ⟨0, by decide⟩), ByteArray.empty, (none, 0, 0, []), ⟨0, by decide⟩) 80 (by kernel_rfl) Try.underlying58 (rd_struct5 Try.underlying64 (by kernel_rfl) (rd_i64 Try.underlying3 (by kernel_rfl)) (rd_struct3 Try.underlying24 (by kernel_rfl) (rd_i64 Try.underlying3 (by kernel_rfl)) (rd_i64 Try.underlying3 (by kernel_rfl)) (rd_i64 Try.underlying3 (by kernel_rfl)) rfl rfl rfl) (rd_string Try.underlying9 (by kernel_rfl)) (rd_slice (0 : UInt8) 1 Try.underlying28 (by kernel_rfl) (by kernel_rfl) (rd_byte Try.underlying5 (by kernel_rfl))) (rd_u64 Try.underlying29 (by kernel_rfl)) rfl rfl rfl rfl rfl) hf0 (light_arg hsz (j := 0) rfl rfl)
  clear hA0 hval0 hsz0 hsz
  refine (vaultPlays_any a0 n0 c0 l0 W s0 (fun o ho => ⟨(g0 o ho).2.2.1, (g0 o ho).2.2.2.1.1.toSl, by have := (g0 o ho).2.2.2.1.2.2; omega⟩)).mono fun e W' ⟨he, hk⟩ => ?_
  have bel := hk.below
  subst he
  exact ⟨_, rfl, _, _, _, [], _, [], hW', trodAll_mk1 (shut_bool Try.underlying4 _), (trodAll_mk1 (Below.trod laidOut (by kernel_rfl) (of_decide_eq_true (by kernel_rfl)) k0 bel lt0)), rfl, bel.frame _, fun h => by cases h⟩
theorem over : Rows.vaultPlaysRow.holds Try.pinned (OpenSpec.ofChange Rows.vaultPlaysSpec) :=
  OpenClaim.holds_of_wide 7 Try.f7 rfl rfl rfl rfl rfl rfl rfl ⟨rfl, rfl, rfl, rfl, rfl⟩ rfl rfl rfl rfl rfl (by kernel_rfl) Try.func7 (by kernel_rfl)
    (of_decide_eq_true (by kernel_rfl)) (by unfold Func.isWrapper; first | (rw [if_pos (by decide +kernel)]; kernel_rfl) | (rw [if_neg (by decide +kernel)]; exact ⟨rfl, rfl⟩))
    (fun os started H enc _ => lifted os started H enc)
end Go.Proofs.Ytpceigiofbeihaa.vaultPlays
namespace Go.Proofs.Ytpceigiofbeihaa
/-- The row, under a short name, for the claim. -/
theorem vaultPlays_holds : Rows.VaultPlaysSaid := vaultPlays.over
#print axioms vaultPlays_holds
end Go.Proofs.Ytpceigiofbeihaa
