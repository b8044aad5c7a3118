/- The law DeviceKeeps holds of every input: the row, out of its walk. No condition narrows it. -/
import Derived.Test.YthimnkmoeonheaaRows
import Derived.Test.YthimnkmoeonheaaRowKit
import Derived.Test.YthimnkmoeonheaaRowGen
import Derived.Test.YthimnkmoeonheaaLawFourK
import Derived.ChangeOld
namespace Go.Proofs.Ythimnkmoeonheaa.deviceKeeps
open Go.ChangeShapes Go.WideShapes Go.ChangeAt Go.RowKit
open Go.ChangeMaps (open_string shut_string)
set_option linter.unusedVariables false
set_option linter.unusedSimpArgs false
theorem own : ownKnob Try.prog.godebug = none := by kernel_rfl
theorem laidOut : laidOutB Try.prog = true := by kernel_rfl
set_option maxRecDepth 100000 in
theorem lifted (os : Os) (started : os.Started) (H : Type) (enc : TypeId × Value → H) :
    ReturnsInHanded {} Try.checked os 3 .any (Rows.deviceKeepsSpec.pre6 enc Try.prog Try.f3 Rows.deviceKeepsRow.domain false) (Rows.deviceKeepsSpec.post enc Try.prog Try.f3 false true false false) := by
  refine returnsInHanded_of_change_sized (C := Try.checked) own started (by kernel_rfl) Try.func3
    (ChangeSpec.witness6 (enc := enc) (C := Try.checked) false ⟨#[], #[.slice none 0 0, .slice none 0 0, .slice none 0 0], []⟩ 8 (by kernel_rfl) (by kernel_rfl) (by kernel_rfl) (by kernel_rfl)) ?_
  intro W base args ds gs before hval0 hW hcnd hsz0 _
  have hsz : (DataW.weightsEach Try.prog (Try.f3.params.toList ++ Rows.deviceKeepsSpec.plain.varTypes Try.prog) (ds ++ gs)).all (· ≤ reachBytes) = true := hsz0
  have hval : ∀ (j : Nat) t v, Try.f3.params[j]? = some t → args[j]? = some v → Value.okWide Try.prog W .any base t v := hval0
  have hW' := hW
  obtain ⟨p, q, hA0, hV, rfl, hfz, hnd⟩ := hW
  have hA : DataW.TrodAll enc Try.prog W 0 (fun _ => true) true Try.f3.params.toList args.toList ds p := hA0
  rw [Try.params3] at hA hval hsz
  obtain ⟨v0, vs0, d0, ds0, p0, q0, hargs, rfl, rfl, h0, r0⟩ := trodAll_cons hA
  obtain ⟨v1, vs1, d1, ds1, p1, q1, rfl, rfl, rfl, h1, r1⟩ := trodAll_cons r0
  obtain ⟨v2, vs2, d2, ds2, p2, q2, rfl, rfl, rfl, h2, r2⟩ := trodAll_cons r1
  obtain ⟨rfl, rfl, rfl⟩ := trodAll_nil r2
  obtain rfl : args = #[v0, v1, v2] := by cases args; simp_all
  obtain ⟨rfl, rfl⟩ := trodVars_none hV
  obtain ⟨a0, n0, c0, rfl⟩ := okWide_slice Try.underlying22 (hval 0 22 v0 rfl rfl)
  have k0 := h0
  have lt0 : ∀ x ∈ p0, x.block < W.heap.size := by obtain ⟨m, hm⟩ := k0; exact DataW.trod_lt m _ _ _ hm
  obtain ⟨fuel0, hf0⟩ := h0
  obtain ⟨l0, s0, e0⟩ := arg_slice (0 : UInt8) byteV Try.underlying22 (by kernel_rfl) (fun k u y h => of_byte Try.underlying5 k u y h) hf0
  have y0 := arg_len hsz 0 rfl rfl Try.underlying22 (show Try.prog.bytesOf 5 = 1 by kernel_rfl) e0
  rw [Nat.mul_one] at y0
  obtain ⟨a1, n1, c1, rfl⟩ := okWide_slice Try.underlying23 (hval 1 23 v1 rfl rfl)
  have k1 := h1
  have lt1 : ∀ x ∈ p1, x.block < W.heap.size := by obtain ⟨m, hm⟩ := k1; exact DataW.trod_lt m _ _ _ hm
  obtain ⟨fuel1, hf1⟩ := h1
  obtain ⟨l1, s1, g1, y1⟩ := arg_slice_R (⟨0, by decide⟩, ⟨0, by decide⟩, (none, 0, 0, []), (none, 0, 0, [])) 64 (by kernel_rfl) Try.underlying23 (rd_struct4 Try.underlying33 (by kernel_rfl) (rd_i64 Try.underlying3 (by kernel_rfl)) (rd_i64 Try.underlying3 (by kernel_rfl)) (rd_slice (0 : UInt8) 1 Try.underlying22 (by kernel_rfl) (by kernel_rfl) (rd_byte Try.underlying5 (by kernel_rfl))) (rd_slice false 1 Try.underlying24 (by kernel_rfl) (by kernel_rfl) (rd_bool Try.underlying4 (by kernel_rfl))) rfl rfl rfl rfl) hf1 (light_arg hsz (j := 1) rfl rfl)
  obtain ⟨a2, n2, c2, rfl⟩ := okWide_slice Try.underlying24 (hval 2 24 v2 rfl rfl)
  have k2 := h2
  have lt2 : ∀ x ∈ p2, x.block < W.heap.size := by obtain ⟨m, hm⟩ := k2; exact DataW.trod_lt m _ _ _ hm
  obtain ⟨fuel2, hf2⟩ := h2
  obtain ⟨l2, s2, e2⟩ := arg_slice false Value.bool Try.underlying24 (by kernel_rfl) (fun k u y h => of_bool Try.underlying4 k u y h) hf2
  have y2 := arg_len hsz 2 rfl rfl Try.underlying24 (show Try.prog.bytesOf 4 = 1 by kernel_rfl) e2
  rw [Nat.mul_one] at y2
  clear hA0 hval0 hsz0 hsz
  refine (deviceKeeps_any a0 n0 c0 l0 a1 n1 c1 l1 a2 n2 c2 l2 W s0 y0 s1 (fun o ho => ⟨⟨(g1 o ho).2.2.1.1.toSl, by have := (g1 o ho).2.2.1.2.2; omega⟩, (g1 o ho).2.2.2.1.toSl, by have := (g1 o ho).2.2.2.2.2; omega⟩) s2 y2).mono fun e W' ⟨he, hk⟩ => ?_
  have bel := hk.below
  subst he
  exact ⟨_, rfl, _, _, _, [], _, [], hW', trodAll_mk1 (shut_bool Try.underlying4 _), (trodAll_cons_mk (Below.trod laidOut (by kernel_rfl) (of_decide_eq_true (by kernel_rfl)) k0 bel lt0) (trodAll_cons_mk (Below.trod laidOut (by kernel_rfl) (of_decide_eq_true (by kernel_rfl)) k1 bel lt1) (trodAll_cons_mk (Below.trod laidOut (by kernel_rfl) (of_decide_eq_true (by kernel_rfl)) k2 bel lt2) trodAll_mk0))), rfl, bel.frame _, fun h => by cases h⟩
theorem over : Rows.deviceKeepsRow.holds Try.pinned (OpenSpec.ofChange Rows.deviceKeepsSpec) :=
  OpenClaim.holds_of_wide 3 Try.f3 rfl rfl rfl rfl rfl rfl rfl ⟨rfl, rfl, rfl, rfl, rfl⟩ rfl rfl rfl rfl rfl (by kernel_rfl) Try.func3 (by kernel_rfl)
    (of_decide_eq_true (by kernel_rfl)) (by unfold Func.isWrapper; first | (rw [if_pos (by decide +kernel)]; kernel_rfl) | (rw [if_neg (by decide +kernel)]; exact ⟨rfl, rfl⟩))
    (fun os started H enc _ => lifted os started H enc)
end Go.Proofs.Ythimnkmoeonheaa.deviceKeeps
namespace Go.Proofs.Ythimnkmoeonheaa
/-- The row, under a short name, for the claim. -/
theorem deviceKeeps_holds : Rows.DeviceKeepsSaid := deviceKeeps.over
#print axioms deviceKeeps_holds
end Go.Proofs.Ythimnkmoeonheaa
