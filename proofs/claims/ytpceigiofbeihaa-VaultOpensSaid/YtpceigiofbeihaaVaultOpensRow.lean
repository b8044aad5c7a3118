/- The law VaultOpens holds of every input: the row, out of its walk. No condition narrows it. -/
import Derived.Test.YtpceigiofbeihaaRows
import Derived.Test.YtpceigiofbeihaaRowKit
import Derived.Test.YtpceigiofbeihaaRowGen
import Derived.Test.YtpceigiofbeihaaLawVaultOpens
import Derived.ChangeOld
namespace Go.Proofs.Ytpceigiofbeihaa.vaultOpens
open Go.ChangeShapes Go.WideShapes Go.ChangeAt Go.RowKit
open Go.ChangeMaps (open_string shut_string)
set_option linter.unusedVariables false
set_option linter.unusedSimpArgs false
theorem own : ownKnob Try.prog.godebug = none := by kernel_rfl
theorem laidOut : laidOutB Try.prog = true := by kernel_rfl
set_option maxRecDepth 100000 in
theorem lifted (os : Os) (started : os.Started) (H : Type) (enc : TypeId × Value → H) :
    ReturnsInHanded {} Try.checked os 8 .any (Rows.vaultOpensSpec.pre6 enc Try.prog Try.f8 Rows.vaultOpensRow.domain false) (Rows.vaultOpensSpec.post enc Try.prog Try.f8 false true false false) := by
  refine returnsInHanded_of_change_sized (C := Try.checked) own started (by kernel_rfl) Try.func8
    (ChangeSpec.witness6 (enc := enc) (C := Try.checked) false ⟨#[], #[.agg #[.int .i64 0, .int .i64 0, .int .i64 0, .int .i64 0, .string ByteArray.empty, .slice none 0 0, .int .u64 0], .agg #[.int .i64 0, .int .i64 0, .int .i64 0, .int .i64 0, .string ByteArray.empty, .slice none 0 0, .int .u64 0], .int .u8 0], []⟩ 8 (by kernel_rfl) (by kernel_rfl) (by kernel_rfl) (by kernel_rfl)) ?_
  intro W base args ds gs before hval0 hW hcnd hsz0 _
  have hsz : (DataW.weightsEach Try.prog (Try.f8.params.toList ++ Rows.vaultOpensSpec.plain.varTypes Try.prog) (ds ++ gs)).all (· ≤ reachBytes) = true := hsz0
  have hval : ∀ (j : Nat) t v, Try.f8.params[j]? = some t → args[j]? = some v → Value.okWide Try.prog W .any base t v := hval0
  have hW' := hW
  obtain ⟨p, q, hA0, hV, rfl, hfz, hnd⟩ := hW
  have hA : DataW.TrodAll enc Try.prog W 0 (fun _ => true) true Try.f8.params.toList args.toList ds p := hA0
  rw [Try.params8] at hA hval hsz
  obtain ⟨v0, vs0, d0, ds0, p0, q0, hargs, rfl, rfl, h0, r0⟩ := trodAll_cons hA
  obtain ⟨v1, vs1, d1, ds1, p1, q1, rfl, rfl, rfl, h1, r1⟩ := trodAll_cons r0
  obtain ⟨v2, vs2, d2, ds2, p2, q2, rfl, rfl, rfl, h2, r2⟩ := trodAll_cons r1
  obtain ⟨rfl, rfl, rfl⟩ := trodAll_nil r2
  obtain rfl : args = #[v0, v1, v2] := by cases args; simp_all
  obtain ⟨rfl, rfl⟩ := trodVars_none hV
  have k0 := h0
  have lt0 : ∀ x ∈ p0, x.block < W.heap.size := by obtain ⟨m, hm⟩ := k0; exact DataW.trod_lt m _ _ _ hm
  obtain ⟨x0, rfl, g0⟩ := arg_agg_R (by kernel_rfl) (rd_struct5 Try.underlying64 (by kernel_rfl) (rd_i64 Try.underlying3 (by kernel_rfl)) (rd_struct3 Try.underlying24 (by kernel_rfl) (rd_i64 Try.underlying3 (by kernel_rfl)) (rd_i64 Try.underlying3 (by kernel_rfl)) (rd_i64 Try.underlying3 (by kernel_rfl)) rfl rfl rfl) (rd_string Try.underlying9 (by kernel_rfl)) (rd_slice (0 : UInt8) Try.underlying28 (by kernel_rfl) (rd_byte Try.underlying5 (by kernel_rfl))) (rd_u64 Try.underlying29 (by kernel_rfl)) rfl rfl rfl rfl rfl) (hval 0 64 v0 rfl rfl) h0
  have k1 := h1
  have lt1 : ∀ x ∈ p1, x.block < W.heap.size := by obtain ⟨m, hm⟩ := k1; exact DataW.trod_lt m _ _ _ hm
  obtain ⟨x1, rfl, g1⟩ := arg_agg_R (by kernel_rfl) (rd_struct5 Try.underlying64 (by kernel_rfl) (rd_i64 Try.underlying3 (by kernel_rfl)) (rd_struct3 Try.underlying24 (by kernel_rfl) (rd_i64 Try.underlying3 (by kernel_rfl)) (rd_i64 Try.underlying3 (by kernel_rfl)) (rd_i64 Try.underlying3 (by kernel_rfl)) rfl rfl rfl) (rd_string Try.underlying9 (by kernel_rfl)) (rd_slice (0 : UInt8) Try.underlying28 (by kernel_rfl) (rd_byte Try.underlying5 (by kernel_rfl))) (rd_u64 Try.underlying29 (by kernel_rfl)) rfl rfl rfl rfl rfl) (hval 1 64 v1 rfl rfl) h1
  obtain ⟨n2, rfl, rfl, rfl, w2⟩ := open_int Try.underlying5 (hval 2 5 v2 rfl rfl) h2
  clear hA0 hval0 hsz0 hsz
  refine (vaultOpens_any x0.1.1 x0.2.1 x0.2.2.1 x0.2.2.2.1.1 x0.2.2.2.1.2.1 x0.2.2.2.1.2.2.1 x0.2.2.2.1.2.2.2 x0.2.2.2.2.1 x1.1.1 x1.2.1 x1.2.2.1 x1.2.2.2.1.1 x1.2.2.2.1.2.1 x1.2.2.2.1.2.2.1 x1.2.2.2.1.2.2.2 x1.2.2.2.2.1 n2 W g0.2.2.2.1.1.toSl g0.2.2.1 g1.2.2.2.1.1.toSl g1.2.2.1 w2).mono fun e W' ⟨he, hk⟩ => ?_
  have bel := hk.below
  subst he
  exact ⟨_, rfl, _, _, _, [], _, [], hW', trodAll_mk1 (shut_bool Try.underlying4 _), (trodAll_cons_mk (Below.trod laidOut (by kernel_rfl) (of_decide_eq_true (by kernel_rfl)) k0 bel lt0) (trodAll_cons_mk (Below.trod laidOut (by kernel_rfl) (of_decide_eq_true (by kernel_rfl)) k1 bel lt1) (trodAll_cons_mk (shut_int Try.underlying5 w2) trodAll_mk0))), rfl, bel.frame _, fun h => by cases h⟩
theorem over : Rows.vaultOpensRow.holds Try.pinned (OpenSpec.ofChange Rows.vaultOpensSpec) :=
  OpenClaim.holds_of_wide 8 Try.f8 rfl rfl rfl rfl rfl rfl rfl ⟨rfl, rfl, rfl, rfl, rfl⟩ rfl rfl rfl rfl rfl (by kernel_rfl) Try.func8 (by kernel_rfl)
    (of_decide_eq_true (by kernel_rfl)) (by unfold Func.isWrapper; first | (rw [if_pos (by decide +kernel)]; kernel_rfl) | (rw [if_neg (by decide +kernel)]; exact ⟨rfl, rfl⟩))
    (fun os started H enc _ => lifted os started H enc)
end Go.Proofs.Ytpceigiofbeihaa.vaultOpens
namespace Go.Proofs.Ytpceigiofbeihaa
/-- The row, under a short name, for the claim. -/
theorem vaultOpens_holds : Rows.VaultOpensSaid := vaultOpens.over
#print axioms vaultOpens_holds
end Go.Proofs.Ytpceigiofbeihaa
