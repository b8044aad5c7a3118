/- The law PageBinds holds of every input: the row, out of its walk, and the tied card. The listed variables are never read. -/
import Derived.Test.YthimnkmoeonheaaDoorRows
import Derived.Test.YthimnkmoeonheaaDoorRowKit
import Derived.Test.YthimnkmoeonheaaDoorRowGen
import Derived.Test.YthimnkmoeonheaaDoorLawSevenB
import Derived.Test.YthimnkmoeonheaaDoorCards
import Derived.Test.YthimnkmoeonheaaDoorTie
import Derived.ChangeOld
import Derived.OpenShut
import Derived.LaidMore
import Derived.Lay
import Derived.SevenTiedAt
import Derived.Stop.Joined
namespace Go.Proofs.YthimnkmoeonheaaDoor.pageBinds
open Go.ChangeShapes Go.WideShapes Go.ChangeAt Go.RowKit
open Go.ChangeMaps (open_string shut_string)
set_option linter.unusedVariables false
set_option linter.unusedSimpArgs false
theorem own : ownKnob Tryd.prog.godebug = none := by kernel_rfl
theorem laidOut : laidOutB Tryd.prog = true := by kernel_rfl
set_option maxRecDepth 100000 in
theorem lifted (os : Os) (started : os.Started) (H : Type) (enc : TypeId × Value → H) :
    ReturnsInHanded {} Tryd.checked os 3 .any (fun w args => (Rows.pageBindsSpec.pre enc Tryd.prog Tryd.f3 Rows.pageBindsRow.domain false w args ∧ laidMetH Tryd.prog Rows.pageBindsRow.laid w) ∧ sizedMet enc Tryd.prog Tryd.f3 (OpenSpec.ofChange Rows.pageBindsSpec) false w args) (Rows.pageBindsSpec.post enc Tryd.prog Tryd.f3 false true false false) := by
  refine returnsInHanded_of_change_and (C := Tryd.checked) (X := fun w _ => laidMetH Tryd.prog Rows.pageBindsRow.laid w) (fun _ _ _ hh h => h.of_heap hh) own started (by kernel_rfl) Tryd.func3
    (ChangeSpec.witness_shaped (enc := enc) (C := Tryd.checked) (os := os) (X := fun w _ => laidMetH Tryd.prog Rows.pageBindsRow.laid w) false (World.laidAll Tryd.prog os Rows.pageBindsRow.laid) #[.agg #[.int .i64 0, .int .i64 0, .int .i64 0, .int .i64 0, .int .i64 0], .agg #[.int .i64 0, .int .i64 0, .int .i64 0, .int .i64 0, .int .i64 0], .agg #[.int .u8 0, .int .u8 0]] 8 (World.laidAll_os _ _ _)
      (World.shaped_of_ZipB (by kernel_rfl) (by kernel_rfl)) (by kernel_rfl) (by kernel_rfl) (by kernel_rfl)
      (by rw [MakeChecks.laidMetH_plain _ _ _ (by kernel_rfl)]; exact laidMet_laidAll _ (by kernel_rfl) (by kernel_rfl))) ?_
  intro W base args ds gs before hval0 hW hcnd hsz0 _ _
  have hsz : (DataW.weightsEach Tryd.prog (Tryd.f3.params.toList ++ Rows.pageBindsSpec.plain.varTypes Tryd.prog) (ds ++ gs)).all (· ≤ reachBytes) = true := hsz0
  have hval : ∀ (j : Nat) t v, Tryd.f3.params[j]? = some t → args[j]? = some v → Value.okWide Tryd.prog W .any base t v := hval0
  have hW' := hW
  obtain ⟨p, q, hA0, hV, rfl, hfz, hnd⟩ := hW
  have hA : DataW.TrodAll enc Tryd.prog W 0 (fun _ => true) true Tryd.f3.params.toList args.toList ds p := hA0
  rw [Tryd.params3] at hA hval hsz
  obtain ⟨v0, vs0, d0, ds0, p0, q0, hargs, rfl, rfl, h0, r0⟩ := trodAll_cons hA
  obtain ⟨v1, vs1, d1, ds1, p1, q1, rfl, rfl, rfl, h1, r1⟩ := trodAll_cons r0
  obtain ⟨v2, vs2, d2, ds2, p2, q2, rfl, rfl, rfl, h2, r2⟩ := trodAll_cons r1
  obtain ⟨rfl, rfl, rfl⟩ := trodAll_nil r2
  obtain rfl : args = #[v0, v1, v2] := by cases args; simp_all
  obtain ⟨rfl, rfl⟩ := trodVars_none hV
  have k0 := h0
  have lt0 : ∀ x ∈ p0, x.block < W.heap.size := by obtain ⟨m, hm⟩ := k0; exact DataW.trod_lt m _ _ _ hm
  obtain ⟨x0, rfl, g0⟩ := arg_agg_R (by kernel_rfl) (rd_struct3 Tryd.underlying25 (by kernel_rfl) (rd_struct3 Tryd.underlying23 (by kernel_rfl) (rd_i64 Tryd.underlying3 (by kernel_rfl)) (rd_i64 Tryd.underlying3 (by kernel_rfl)) (rd_i64 Tryd.underlying3 (by kernel_rfl)) rfl rfl rfl) (rd_i64 Tryd.underlying3 (by kernel_rfl)) (rd_i64 Tryd.underlying3 (by kernel_rfl)) rfl rfl rfl) (hval 0 25 v0 rfl rfl) h0 (light_arg hsz (j := 0) rfl rfl)
  have k1 := h1
  have lt1 : ∀ x ∈ p1, x.block < W.heap.size := by obtain ⟨m, hm⟩ := k1; exact DataW.trod_lt m _ _ _ hm
  obtain ⟨x1, rfl, g1⟩ := arg_agg_R (by kernel_rfl) (rd_struct3 Tryd.underlying25 (by kernel_rfl) (rd_struct3 Tryd.underlying23 (by kernel_rfl) (rd_i64 Tryd.underlying3 (by kernel_rfl)) (rd_i64 Tryd.underlying3 (by kernel_rfl)) (rd_i64 Tryd.underlying3 (by kernel_rfl)) rfl rfl rfl) (rd_i64 Tryd.underlying3 (by kernel_rfl)) (rd_i64 Tryd.underlying3 (by kernel_rfl)) rfl rfl rfl) (hval 1 25 v1 rfl rfl) h1 (light_arg hsz (j := 1) rfl rfl)
  have k2 := h2
  have lt2 : ∀ x ∈ p2, x.block < W.heap.size := by obtain ⟨m, hm⟩ := k2; exact DataW.trod_lt m _ _ _ hm
  obtain ⟨x2, rfl, g2⟩ := arg_agg_R (by kernel_rfl) (rd_array2 Tryd.underlying26 (by kernel_rfl) (rd_byte Tryd.underlying5 (by kernel_rfl))) (hval 2 26 v2 rfl rfl) h2 (light_arg hsz (j := 2) rfl rfl)
  clear hA0 hval0 hsz0 hsz
  refine (pageBinds_walk x0 x1 x2.1 x2.2 W ).mono fun e W' ⟨he, hk⟩ => ?_
  have bel := hk.below
  subst he
  exact ⟨_, rfl, _, _, _, [], _, [], hW', trodAll_mk1 (shut_bool Tryd.underlying4 _), (trodAll_cons_mk (Below.trod laidOut (by kernel_rfl) (of_decide_eq_true (by kernel_rfl)) k0 bel lt0) (trodAll_cons_mk (Below.trod laidOut (by kernel_rfl) (of_decide_eq_true (by kernel_rfl)) k1 bel lt1) (trodAll_cons_mk (Below.trod laidOut (by kernel_rfl) (of_decide_eq_true (by kernel_rfl)) k2 bel lt2) trodAll_mk0))), rfl, bel.frame _, fun h => by cases h⟩
theorem over : Rows.pageBindsRow.holds Tryd.pinned (OpenSpec.ofChange Rows.pageBindsSpec) :=
  OpenClaim.holds_of_wide 3 Tryd.f3 rfl rfl rfl rfl rfl rfl rfl ⟨rfl, rfl, rfl, rfl, rfl⟩ rfl rfl rfl rfl rfl (by kernel_rfl) Tryd.func3 (by kernel_rfl)
    (of_decide_eq_true (by kernel_rfl)) (by unfold Func.isWrapper; first | (rw [if_pos (by decide +kernel)]; kernel_rfl) | (rw [if_neg (by decide +kernel)]; exact ⟨rfl, rfl⟩))
    (fun os started H enc _ => lifted os started H enc)
end Go.Proofs.YthimnkmoeonheaaDoor.pageBinds
namespace Go.Proofs.YthimnkmoeonheaaDoor
/-- The card: the row with its listed variables tied to the program's text. -/
theorem pageBinds_holds : Rows.PageBindsCardSaid :=
  Claim7.holds_tied_plain_at .later [] [.data, .pinned] true (true, "1604ce66acf6c98cc2e42580213284ae5e04b43e225ff7e3f069f3ee6b3008f3") false pageBinds.over (fun _ h => by cases h) (by kernel_rfl) (fun _ h => by cases h) pageBinds_row_tie rfl ⟨rfl, rfl⟩ (by kernel_rfl) rfl
    (fun f fn hf hfn => by
      obtain rfl : f = 3 := Option.some.inj ((show Tryd.prog.funcNamed "strongroom/strongroomlaw07.PageBinds" = some 3 by kernel_rfl).symm.trans hf) |>.symm
      obtain rfl : fn = Tryd.f3 := (Option.some.inj (Tryd.func3.symm.trans hfn)).symm
      exact ⟨by kernel_rfl, fun j t ht => by
        have hm : t ∈ Tryd.f3.params.toList := Array.mem_def.1 (Array.mem_of_getElem? ht)
        have hall : (Tryd.f3.params.toList.all fun u => !Tryd.prog.wantsStandIn u) = true := by kernel_rfl
        show Tryd.prog.wantsStandIn t = false
        simpa using List.all_eq_true.1 hall t hm⟩)
    (by kernel_rfl)
#print axioms pageBinds_holds
end Go.Proofs.YthimnkmoeonheaaDoor
