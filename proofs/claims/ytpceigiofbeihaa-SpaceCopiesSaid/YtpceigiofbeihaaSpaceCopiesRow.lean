/- The law SpaceCopies holds of every input: the row, out of its walk. No condition narrows it. -/
import Derived.Test.YtpceigiofbeihaaRows
import Derived.Test.YtpceigiofbeihaaRowKit
import Derived.Test.YtpceigiofbeihaaRowGen
import Derived.Test.YtpceigiofbeihaaLawSpaceCopies
import Derived.ChangeOld
namespace Go.Proofs.Ytpceigiofbeihaa.spaceCopies
open Go.ChangeShapes Go.WideShapes Go.ChangeAt Go.RowKit
open Go.ChangeMaps (open_string shut_string)
set_option linter.unusedVariables false
set_option linter.unusedSimpArgs false
theorem own : ownKnob Try.prog.godebug = none := by kernel_rfl
theorem laidOut : laidOutB Try.prog = true := by kernel_rfl
set_option maxRecDepth 100000 in
theorem lifted (os : Os) (started : os.Started) (H : Type) (enc : TypeId × Value → H) :
    ReturnsInHanded {} Try.checked os 9 .any (Rows.spaceCopiesSpec.pre6 enc Try.prog Try.f9 Rows.spaceCopiesRow.domain false) (Rows.spaceCopiesSpec.post enc Try.prog Try.f9 false true false false) := by
  refine returnsInHanded_of_change_sized (C := Try.checked) own started (by kernel_rfl) Try.func9
    (ChangeSpec.witness6 (enc := enc) (C := Try.checked) false ⟨#[], #[.agg #[.int .i64 0, .int .i64 0], .slice none 0 0, .slice none 0 0], []⟩ 8 (by kernel_rfl) (by kernel_rfl) (by kernel_rfl) (by kernel_rfl)) ?_
  intro W base args ds gs before hval0 hW hcnd hsz0 _
  have hsz : (DataW.weightsEach Try.prog (Try.f9.params.toList ++ Rows.spaceCopiesSpec.plain.varTypes Try.prog) (ds ++ gs)).all (· ≤ reachBytes) = true := hsz0
  have hval : ∀ (j : Nat) t v, Try.f9.params[j]? = some t → args[j]? = some v → Value.okWide Try.prog W .any base t v := hval0
  have hW' := hW
  obtain ⟨p, q, hA0, hV, rfl, hfz, hnd⟩ := hW
  have hA : DataW.TrodAll enc Try.prog W 0 (fun _ => true) true Try.f9.params.toList args.toList ds p := hA0
  rw [Try.params9] at hA hval hsz
  obtain ⟨v0, vs0, d0, ds0, p0, q0, hargs, rfl, rfl, h0, r0⟩ := trodAll_cons hA
  obtain ⟨v1, vs1, d1, ds1, p1, q1, rfl, rfl, rfl, h1, r1⟩ := trodAll_cons r0
  obtain ⟨v2, vs2, d2, ds2, p2, q2, rfl, rfl, rfl, h2, r2⟩ := trodAll_cons r1
  obtain ⟨rfl, rfl, rfl⟩ := trodAll_nil r2
  obtain rfl : args = #[v0, v1, v2] := by cases args; simp_all
  obtain ⟨rfl, rfl⟩ := trodVars_none hV
  have k0 := h0
  have lt0 : ∀ x ∈ p0, x.block < W.heap.size := by obtain ⟨m, hm⟩ := k0; exact DataW.trod_lt m _ _ _ hm
  obtain ⟨x0, rfl, g0⟩ := arg_agg_R (by kernel_rfl) (rd_array2 Try.underlying75 (by kernel_rfl) (rd_i64 Try.underlying3 (by kernel_rfl))) (hval 0 75 v0 rfl rfl) h0
  obtain ⟨a1, n1, c1, rfl⟩ := okWide_slice Try.underlying49 (hval 1 49 v1 rfl rfl)
  have k1 := h1
  have lt1 : ∀ x ∈ p1, x.block < W.heap.size := by obtain ⟨m, hm⟩ := k1; exact DataW.trod_lt m _ _ _ hm
  obtain ⟨fuel1, hf1⟩ := h1
  obtain ⟨l1, s1, e1⟩ := arg_slice_k (k := 2) (⟨0, by decide⟩, ⟨0, by decide⟩) op6V Try.underlying49 (by kernel_rfl) (fun _ => rfl) (fun q cs y h => of_two Try.underlying54 (by kernel_rfl) rfl rfl (by kernel_rfl) (by kernel_rfl) Try.underlying3 Try.underlying3 q cs y h) hf1
  have y1 := arg_len hsz 1 rfl rfl Try.underlying49 (show Try.prog.bytesOf 54 = 16 by kernel_rfl) e1
  obtain ⟨a2, n2, c2, rfl⟩ := okWide_slice Try.underlying49 (hval 2 49 v2 rfl rfl)
  have k2 := h2
  have lt2 : ∀ x ∈ p2, x.block < W.heap.size := by obtain ⟨m, hm⟩ := k2; exact DataW.trod_lt m _ _ _ hm
  obtain ⟨fuel2, hf2⟩ := h2
  obtain ⟨l2, s2, e2⟩ := arg_slice_k (k := 2) (⟨0, by decide⟩, ⟨0, by decide⟩) op6V Try.underlying49 (by kernel_rfl) (fun _ => rfl) (fun q cs y h => of_two Try.underlying54 (by kernel_rfl) rfl rfl (by kernel_rfl) (by kernel_rfl) Try.underlying3 Try.underlying3 q cs y h) hf2
  have y2 := arg_len hsz 2 rfl rfl Try.underlying49 (show Try.prog.bytesOf 54 = 16 by kernel_rfl) e2
  clear hA0 hval0 hsz0 hsz
  refine (spaceCopies_any x0.1.1 x0.2.1 a1 n1 c1 l1 a2 n2 c2 l2 W x0.1.2 x0.2.2 s1 (by omega) s2 (by omega)).mono fun e W' ⟨he, hk⟩ => ?_
  have bel := hk.below
  subst he
  exact ⟨_, rfl, _, _, _, [], _, [], hW', trodAll_mk1 (shut_bool Try.underlying4 _), (trodAll_cons_mk (Below.trod laidOut (by kernel_rfl) (of_decide_eq_true (by kernel_rfl)) k0 bel lt0) (trodAll_cons_mk (Below.trod laidOut (by kernel_rfl) (of_decide_eq_true (by kernel_rfl)) k1 bel lt1) (trodAll_cons_mk (Below.trod laidOut (by kernel_rfl) (of_decide_eq_true (by kernel_rfl)) k2 bel lt2) trodAll_mk0))), rfl, bel.frame _, fun h => by cases h⟩
theorem over : Rows.spaceCopiesRow.holds Try.pinned (OpenSpec.ofChange Rows.spaceCopiesSpec) :=
  OpenClaim.holds_of_wide 9 Try.f9 rfl rfl rfl rfl rfl rfl rfl ⟨rfl, rfl, rfl, rfl, rfl⟩ rfl rfl rfl rfl rfl (by kernel_rfl) Try.func9 (by kernel_rfl)
    (of_decide_eq_true (by kernel_rfl)) (by unfold Func.isWrapper; first | (rw [if_pos (by decide +kernel)]; kernel_rfl) | (rw [if_neg (by decide +kernel)]; exact ⟨rfl, rfl⟩))
    (fun os started H enc _ => lifted os started H enc)
end Go.Proofs.Ytpceigiofbeihaa.spaceCopies
namespace Go.Proofs.Ytpceigiofbeihaa
/-- The row, under a short name, for the claim. -/
theorem spaceCopies_holds : Rows.SpaceCopiesSaid := spaceCopies.over
#print axioms spaceCopies_holds
end Go.Proofs.Ytpceigiofbeihaa
