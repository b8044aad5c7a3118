/- The law DeviceAlone holds of every input: the row, out of its walk. No condition narrows it. -/
import Derived.Test.YthimnkmoeonheaaRows
import Derived.Test.YthimnkmoeonheaaRowKit
import Derived.Test.YthimnkmoeonheaaRowGen
import Derived.Test.YthimnkmoeonheaaLawFourA
import Derived.ChangeOld
namespace Go.Proofs.Ythimnkmoeonheaa.deviceAlone
open Go.ChangeShapes Go.WideShapes Go.ChangeAt Go.RowKit
open Go.ChangeMaps (open_string shut_string)
set_option linter.unusedVariables false
set_option linter.unusedSimpArgs false
theorem own : ownKnob Try.prog.godebug = none := by kernel_rfl
theorem laidOut : laidOutB Try.prog = true := by kernel_rfl
set_option maxRecDepth 100000 in
theorem lifted (os : Os) (started : os.Started) (H : Type) (enc : TypeId × Value → H) :
    ReturnsInHanded {} Try.checked os 4 .any (Rows.deviceAloneSpec.pre6 enc Try.prog Try.f4 Rows.deviceAloneRow.domain false) (Rows.deviceAloneSpec.post enc Try.prog Try.f4 false true false false) := by
  refine returnsInHanded_of_change_sized (C := Try.checked) own started (by kernel_rfl) Try.func4
    (ChangeSpec.witness6 (enc := enc) (C := Try.checked) false ⟨#[], #[.slice none 0 0, .slice none 0 0], []⟩ 8 (by kernel_rfl) (by kernel_rfl) (by kernel_rfl) (by kernel_rfl)) ?_
  intro W base args ds gs before hval0 hW hcnd hsz0 _
  have hsz : (DataW.weightsEach Try.prog (Try.f4.params.toList ++ Rows.deviceAloneSpec.plain.varTypes Try.prog) (ds ++ gs)).all (· ≤ reachBytes) = true := hsz0
  have hval : ∀ (j : Nat) t v, Try.f4.params[j]? = some t → args[j]? = some v → Value.okWide Try.prog W .any base t v := hval0
  have hW' := hW
  obtain ⟨p, q, hA0, hV, rfl, hfz, hnd⟩ := hW
  have hA : DataW.TrodAll enc Try.prog W 0 (fun _ => true) true Try.f4.params.toList args.toList ds p := hA0
  rw [Try.params4] at hA hval hsz
  obtain ⟨v0, vs0, d0, ds0, p0, q0, hargs, rfl, rfl, h0, r0⟩ := trodAll_cons hA
  obtain ⟨v1, vs1, d1, ds1, p1, q1, rfl, rfl, rfl, h1, r1⟩ := trodAll_cons r0
  obtain ⟨rfl, rfl, rfl⟩ := trodAll_nil r1
  obtain rfl : args = #[v0, v1] := by cases args; simp_all
  obtain ⟨rfl, rfl⟩ := trodVars_none hV
  obtain ⟨a0, n0, c0, rfl⟩ := okWide_slice Try.underlying22 (hval 0 22 v0 rfl rfl)
  have k0 := h0
  have lt0 : ∀ x ∈ p0, x.block < W.heap.size := by obtain ⟨m, hm⟩ := k0; exact DataW.trod_lt m _ _ _ hm
  obtain ⟨fuel0, hf0⟩ := h0
  obtain ⟨l0, s0, e0⟩ := arg_slice (0 : UInt8) byteV Try.underlying22 (by kernel_rfl) (fun k u y h => of_byte Try.underlying5 k u y h) hf0
  have y0 := arg_len hsz 0 rfl rfl Try.underlying22 (show Try.prog.bytesOf 5 = 1 by kernel_rfl) e0
  rw [Nat.mul_one] at y0
  obtain ⟨a1, n1, c1, rfl⟩ := okWide_slice Try.underlying23 (hval 1 23 v1 rfl rfl)
  have k1 := h1
  have lt1 : ∀ x ∈ p1, x.block < W.heap.size := by obtain ⟨m, hm⟩ := k1; exact DataW.trod_lt m _ _ _ hm
  obtain ⟨fuel1, hf1⟩ := h1
  obtain ⟨l1, s1, g1, y1⟩ := arg_slice_R (⟨0, by decide⟩, ⟨0, by decide⟩, (none, 0, 0, []), (none, 0, 0, [])) 64 (by kernel_rfl) Try.underlying23 (rd_struct4 Try.underlying33 (by kernel_rfl) (rd_i64 Try.underlying3 (by kernel_rfl)) (rd_i64 Try.underlying3 (by kernel_rfl)) (rd_slice (0 : UInt8) 1 Try.underlying22 (by kernel_rfl) (by kernel_rfl) (rd_byte Try.underlying5 (by kernel_rfl))) (rd_slice false 1 Try.underlying24 (by kernel_rfl) (by kernel_rfl) (rd_bool Try.underlying4 (by kernel_rfl))) rfl rfl rfl rfl) hf1 (light_arg hsz (j := 1) rfl rfl)
  clear hA0 hval0 hsz0 hsz
  refine (deviceAlone_any a0 n0 c0 l0 a1 n1 c1 l1 W s0 y0 s1 (fun o ho => ⟨⟨(g1 o ho).2.2.1.1.toSl, by have := (g1 o ho).2.2.1.2.2; omega⟩, (g1 o ho).2.2.2.1.toSl, by have := (g1 o ho).2.2.2.2.2; omega⟩)).mono fun e W' ⟨he, hk⟩ => ?_
  have bel := hk.below
  subst he
  exact ⟨_, rfl, _, _, _, [], _, [], hW', trodAll_mk1 (shut_bool Try.underlying4 _), (trodAll_cons_mk (Below.trod laidOut (by kernel_rfl) (of_decide_eq_true (by kernel_rfl)) k0 bel lt0) (trodAll_cons_mk (Below.trod laidOut (by kernel_rfl) (of_decide_eq_true (by kernel_rfl)) k1 bel lt1) trodAll_mk0)), rfl, bel.frame _, fun h => by cases h⟩
theorem over : Rows.deviceAloneRow.holds Try.pinned (OpenSpec.ofChange Rows.deviceAloneSpec) :=
  OpenClaim.holds_of_wide 4 Try.f4 rfl rfl rfl rfl rfl rfl rfl ⟨rfl, rfl, rfl, rfl, rfl⟩ rfl rfl rfl rfl rfl (by kernel_rfl) Try.func4 (by kernel_rfl)
    (of_decide_eq_true (by kernel_rfl)) (by unfold Func.isWrapper; first | (rw [if_pos (by decide +kernel)]; kernel_rfl) | (rw [if_neg (by decide +kernel)]; exact ⟨rfl, rfl⟩))
    (fun os started H enc _ => lifted os started H enc)
end Go.Proofs.Ythimnkmoeonheaa.deviceAlone
namespace Go.Proofs.Ythimnkmoeonheaa
/-- The row, under a short name, for the claim. -/
theorem deviceAlone_holds : Rows.DeviceAloneSaid := deviceAlone.over
#print axioms deviceAlone_holds
end Go.Proofs.Ythimnkmoeonheaa
