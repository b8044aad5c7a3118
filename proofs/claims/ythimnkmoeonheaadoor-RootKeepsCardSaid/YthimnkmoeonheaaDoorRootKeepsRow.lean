/- The law RootKeeps holds of every input: the row, out of its walk, and the tied card. The listed variables are never read. -/
import Derived.Test.YthimnkmoeonheaaDoorRows
import Derived.Test.YthimnkmoeonheaaDoorRowKit
import Derived.Test.YthimnkmoeonheaaDoorRowGen
import Derived.Test.YthimnkmoeonheaaDoorLawEightK
import Derived.Test.YthimnkmoeonheaaDoorCards
import Derived.Test.YthimnkmoeonheaaDoorTie
import Derived.ChangeOld
import Derived.OpenShut
import Derived.LaidMore
import Derived.Lay
import Derived.SevenTiedAt
import Derived.Stop.Joined
namespace Go.Proofs.YthimnkmoeonheaaDoor.rootKeeps
open Go.ChangeShapes Go.WideShapes Go.ChangeAt Go.RowKit
open Go.ChangeMaps (open_string shut_string)
set_option linter.unusedVariables false
set_option linter.unusedSimpArgs false
theorem own : ownKnob Tryd.prog.godebug = none := by kernel_rfl
theorem laidOut : laidOutB Tryd.prog = true := by kernel_rfl
set_option maxRecDepth 100000 in
theorem lifted (os : Os) (started : os.Started) (H : Type) (enc : TypeId × Value → H) :
    ReturnsInHanded {} Tryd.checked os 11 .any (fun w args => (Rows.rootKeepsSpec.pre enc Tryd.prog Tryd.f11 Rows.rootKeepsRow.domain false w args ∧ laidMetH Tryd.prog Rows.rootKeepsRow.laid w) ∧ sizedMet enc Tryd.prog Tryd.f11 (OpenSpec.ofChange Rows.rootKeepsSpec) false w args) (Rows.rootKeepsSpec.post enc Tryd.prog Tryd.f11 false true false false) := by
  refine returnsInHanded_of_change_and (C := Tryd.checked) (X := fun w _ => laidMetH Tryd.prog Rows.rootKeepsRow.laid w) (fun _ _ _ hh h => h.of_heap hh) own started (by kernel_rfl) Tryd.func11
    (ChangeSpec.witness_shaped (enc := enc) (C := Tryd.checked) (os := os) (X := fun w _ => laidMetH Tryd.prog Rows.rootKeepsRow.laid w) false (World.laidAll Tryd.prog os Rows.rootKeepsRow.laid) #[.slice none 0 0] 8 (World.laidAll_os _ _ _)
      (World.shaped_of_ZipB (by kernel_rfl) (by kernel_rfl)) (by kernel_rfl) (by kernel_rfl) (by kernel_rfl)
      (by rw [MakeChecks.laidMetH_plain _ _ _ (by kernel_rfl)]; exact laidMet_laidAll _ (by kernel_rfl) (by kernel_rfl))) ?_
  intro W base args ds gs before hval0 hW hcnd hsz0 _ _
  have hsz : (DataW.weightsEach Tryd.prog (Tryd.f11.params.toList ++ Rows.rootKeepsSpec.plain.varTypes Tryd.prog) (ds ++ gs)).all (· ≤ reachBytes) = true := hsz0
  have hval : ∀ (j : Nat) t v, Tryd.f11.params[j]? = some t → args[j]? = some v → Value.okWide Tryd.prog W .any base t v := hval0
  have hW' := hW
  obtain ⟨p, q, hA0, hV, rfl, hfz, hnd⟩ := hW
  have hA : DataW.TrodAll enc Tryd.prog W 0 (fun _ => true) true Tryd.f11.params.toList args.toList ds p := hA0
  rw [Tryd.params11] at hA hval hsz
  obtain ⟨v0, vs0, d0, ds0, p0, q0, hargs, rfl, rfl, h0, r0⟩ := trodAll_cons hA
  obtain ⟨rfl, rfl, rfl⟩ := trodAll_nil r0
  obtain rfl : args = #[v0] := by cases args; simp_all
  obtain ⟨rfl, rfl⟩ := trodVars_none hV
  obtain ⟨a0, n0, c0, rfl⟩ := okWide_slice Tryd.underlying83 (hval 0 83 v0 rfl rfl)
  have k0 := h0
  have lt0 : ∀ x ∈ p0, x.block < W.heap.size := by obtain ⟨m, hm⟩ := k0; exact DataW.trod_lt m _ _ _ hm
  obtain ⟨fuel0, hf0⟩ := h0
  obtain ⟨l0, s0, g0, y0⟩ := arg_slice_R (⟨0, by decide⟩, ⟨0, by decide⟩, ⟨0, by decide⟩, (none, 0, 0, []), (none, 0, 0, [])) 72 (by kernel_rfl) Tryd.underlying83 (rd_struct5 Tryd.underlying88 (by kernel_rfl) (rd_i64 Tryd.underlying3 (by kernel_rfl)) (rd_i64 Tryd.underlying3 (by kernel_rfl)) (rd_i64 Tryd.underlying3 (by kernel_rfl)) (rd_slice (0 : UInt8) 1 Tryd.underlying35 (by kernel_rfl) (by kernel_rfl) (rd_byte Tryd.underlying5 (by kernel_rfl))) (rd_slice false 1 Tryd.underlying52 (by kernel_rfl) (by kernel_rfl) (rd_bool Tryd.underlying4 (by kernel_rfl))) rfl rfl rfl rfl rfl) hf0 (light_arg hsz (j := 0) rfl rfl)
  clear hA0 hval0 hsz0 hsz
  refine (rootKeeps_walk a0 n0 c0 l0 W s0 (fun o ho => ⟨⟨(g0 o ho).2.2.2.1.1.toSl, by have := (g0 o ho).2.2.2.1.2.2; omega⟩, (g0 o ho).2.2.2.2.1.toSl, by have := (g0 o ho).2.2.2.2.2.2; omega⟩)).mono fun e W' ⟨he, hk⟩ => ?_
  have bel := hk.below
  subst he
  exact ⟨_, rfl, _, _, _, [], _, [], hW', trodAll_mk1 (shut_bool Tryd.underlying4 _), (trodAll_mk1 (Below.trod laidOut (by kernel_rfl) (of_decide_eq_true (by kernel_rfl)) k0 bel lt0)), rfl, bel.frame _, fun h => by cases h⟩
theorem over : Rows.rootKeepsRow.holds Tryd.pinned (OpenSpec.ofChange Rows.rootKeepsSpec) :=
  OpenClaim.holds_of_wide 11 Tryd.f11 rfl rfl rfl rfl rfl rfl rfl ⟨rfl, rfl, rfl, rfl, rfl⟩ rfl rfl rfl rfl rfl (by kernel_rfl) Tryd.func11 (by kernel_rfl)
    (of_decide_eq_true (by kernel_rfl)) (by unfold Func.isWrapper; first | (rw [if_pos (by decide +kernel)]; kernel_rfl) | (rw [if_neg (by decide +kernel)]; exact ⟨rfl, rfl⟩))
    (fun os started H enc _ => lifted os started H enc)
end Go.Proofs.YthimnkmoeonheaaDoor.rootKeeps
namespace Go.Proofs.YthimnkmoeonheaaDoor
/-- The card: the row with its listed variables tied to the program's text. -/
theorem rootKeeps_holds : Rows.RootKeepsCardSaid :=
  Claim7.holds_tied_plain_at .later [] [.data, .pinned] true (true, "1604ce66acf6c98cc2e42580213284ae5e04b43e225ff7e3f069f3ee6b3008f3") false rootKeeps.over (fun _ h => by cases h) (by kernel_rfl) (fun _ h => by cases h) rootKeeps_row_tie rfl ⟨rfl, rfl⟩ (by kernel_rfl) rfl
    (fun f fn hf hfn => by
      obtain rfl : f = 11 := Option.some.inj ((show Tryd.prog.funcNamed "strongroom/strongroomlaw08.RootKeeps" = some 11 by kernel_rfl).symm.trans hf) |>.symm
      obtain rfl : fn = Tryd.f11 := (Option.some.inj (Tryd.func11.symm.trans hfn)).symm
      exact ⟨by kernel_rfl, fun j t ht => by
        have hm : t ∈ Tryd.f11.params.toList := Array.mem_def.1 (Array.mem_of_getElem? ht)
        have hall : (Tryd.f11.params.toList.all fun u => !Tryd.prog.wantsStandIn u) = true := by kernel_rfl
        show Tryd.prog.wantsStandIn t = false
        simpa using List.all_eq_true.1 hall t hm⟩)
    (by kernel_rfl)
#print axioms rootKeeps_holds
end Go.Proofs.YthimnkmoeonheaaDoor
