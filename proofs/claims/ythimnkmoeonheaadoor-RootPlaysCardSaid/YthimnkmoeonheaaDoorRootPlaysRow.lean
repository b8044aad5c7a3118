/- The law RootPlays holds of every input: the row, out of its walk, and the tied card. The listed variables are never read. -/
import Derived.Test.YthimnkmoeonheaaDoorRows
import Derived.Test.YthimnkmoeonheaaDoorRowKit
import Derived.Test.YthimnkmoeonheaaDoorRowGen
import Derived.Test.YthimnkmoeonheaaDoorLawEightP
import Derived.Test.YthimnkmoeonheaaDoorCards
import Derived.Test.YthimnkmoeonheaaDoorTie
import Derived.ChangeOld
import Derived.OpenShut
import Derived.LaidMore
import Derived.Lay
import Derived.SevenTiedAt
import Derived.Stop.Joined
namespace Go.Proofs.YthimnkmoeonheaaDoor.rootPlays
open Go.ChangeShapes Go.WideShapes Go.ChangeAt Go.RowKit
open Go.ChangeMaps (open_string shut_string)
set_option linter.unusedVariables false
set_option linter.unusedSimpArgs false
theorem own : ownKnob Tryd.prog.godebug = none := by kernel_rfl
theorem laidOut : laidOutB Tryd.prog = true := by kernel_rfl
set_option maxRecDepth 100000 in
theorem lifted (os : Os) (started : os.Started) (H : Type) (enc : TypeId × Value → H) :
    ReturnsInHanded {} Tryd.checked os 10 .any (fun w args => (Rows.rootPlaysSpec.pre enc Tryd.prog Tryd.f10 Rows.rootPlaysRow.domain false w args ∧ laidMetH Tryd.prog Rows.rootPlaysRow.laid w) ∧ sizedMet enc Tryd.prog Tryd.f10 (OpenSpec.ofChange Rows.rootPlaysSpec) false w args) (Rows.rootPlaysSpec.post enc Tryd.prog Tryd.f10 false true false false) := by
  refine returnsInHanded_of_change_and (C := Tryd.checked) (X := fun w _ => laidMetH Tryd.prog Rows.rootPlaysRow.laid w) (fun _ _ _ hh h => h.of_heap hh) own started (by kernel_rfl) Tryd.func10
    (ChangeSpec.witness_shaped (enc := enc) (C := Tryd.checked) (os := os) (X := fun w _ => laidMetH Tryd.prog Rows.rootPlaysRow.laid w) false (World.laidAll Tryd.prog os Rows.rootPlaysRow.laid) #[.int .i64 0, .slice none 0 0] 8 (World.laidAll_os _ _ _)
      (World.shaped_of_ZipB (by kernel_rfl) (by kernel_rfl)) (by kernel_rfl) (by kernel_rfl) (by kernel_rfl)
      (by rw [MakeChecks.laidMetH_plain _ _ _ (by kernel_rfl)]; exact laidMet_laidAll _ (by kernel_rfl) (by kernel_rfl))) ?_
  intro W base args ds gs before hval0 hW hcnd hsz0 _ _
  have hsz : (DataW.weightsEach Tryd.prog (Tryd.f10.params.toList ++ Rows.rootPlaysSpec.plain.varTypes Tryd.prog) (ds ++ gs)).all (· ≤ reachBytes) = true := hsz0
  have hval : ∀ (j : Nat) t v, Tryd.f10.params[j]? = some t → args[j]? = some v → Value.okWide Tryd.prog W .any base t v := hval0
  have hW' := hW
  obtain ⟨p, q, hA0, hV, rfl, hfz, hnd⟩ := hW
  have hA : DataW.TrodAll enc Tryd.prog W 0 (fun _ => true) true Tryd.f10.params.toList args.toList ds p := hA0
  rw [Tryd.params10] at hA hval hsz
  obtain ⟨v0, vs0, d0, ds0, p0, q0, hargs, rfl, rfl, h0, r0⟩ := trodAll_cons hA
  obtain ⟨v1, vs1, d1, ds1, p1, q1, rfl, rfl, rfl, h1, r1⟩ := trodAll_cons r0
  obtain ⟨rfl, rfl, rfl⟩ := trodAll_nil r1
  obtain rfl : args = #[v0, v1] := by cases args; simp_all
  obtain ⟨rfl, rfl⟩ := trodVars_none hV
  obtain ⟨n0, rfl, rfl, rfl, w0⟩ := open_int Tryd.underlying3 (hval 0 3 v0 rfl rfl) h0
  obtain ⟨a1, n1, c1, rfl⟩ := okWide_slice Tryd.underlying83 (hval 1 83 v1 rfl rfl)
  have k1 := h1
  have lt1 : ∀ x ∈ p1, x.block < W.heap.size := by obtain ⟨m, hm⟩ := k1; exact DataW.trod_lt m _ _ _ hm
  obtain ⟨fuel1, hf1⟩ := h1
  obtain ⟨l1, s1, g1, y1⟩ := arg_slice_R (⟨0, by decide⟩, ⟨0, by decide⟩, ⟨0, by decide⟩, (none, 0, 0, []), (none, 0, 0, [])) 72 (by kernel_rfl) Tryd.underlying83 (rd_struct5 Tryd.underlying88 (by kernel_rfl) (rd_i64 Tryd.underlying3 (by kernel_rfl)) (rd_i64 Tryd.underlying3 (by kernel_rfl)) (rd_i64 Tryd.underlying3 (by kernel_rfl)) (rd_slice (0 : UInt8) 1 Tryd.underlying35 (by kernel_rfl) (by kernel_rfl) (rd_byte Tryd.underlying5 (by kernel_rfl))) (rd_slice false 1 Tryd.underlying52 (by kernel_rfl) (by kernel_rfl) (rd_bool Tryd.underlying4 (by kernel_rfl))) rfl rfl rfl rfl rfl) hf1 (light_arg hsz (j := 1) rfl rfl)
  clear hA0 hval0 hsz0 hsz
  refine (rootPlays_walk n0 a1 n1 c1 l1 W w0 s1 (fun o ho => ⟨⟨(g1 o ho).2.2.2.1.1.toSl, by have := (g1 o ho).2.2.2.1.2.2; omega⟩, (g1 o ho).2.2.2.2.1.toSl, by have := (g1 o ho).2.2.2.2.2.2; omega⟩)).mono fun e W' ⟨he, hk⟩ => ?_
  have bel := hk.below
  subst he
  exact ⟨_, rfl, _, _, _, [], _, [], hW', trodAll_mk1 (shut_bool Tryd.underlying4 _), (trodAll_cons_mk (shut_int Tryd.underlying3 w0) (trodAll_cons_mk (Below.trod laidOut (by kernel_rfl) (of_decide_eq_true (by kernel_rfl)) k1 bel lt1) trodAll_mk0)), rfl, bel.frame _, fun h => by cases h⟩
theorem over : Rows.rootPlaysRow.holds Tryd.pinned (OpenSpec.ofChange Rows.rootPlaysSpec) :=
  OpenClaim.holds_of_wide 10 Tryd.f10 rfl rfl rfl rfl rfl rfl rfl ⟨rfl, rfl, rfl, rfl, rfl⟩ rfl rfl rfl rfl rfl (by kernel_rfl) Tryd.func10 (by kernel_rfl)
    (of_decide_eq_true (by kernel_rfl)) (by unfold Func.isWrapper; first | (rw [if_pos (by decide +kernel)]; kernel_rfl) | (rw [if_neg (by decide +kernel)]; exact ⟨rfl, rfl⟩))
    (fun os started H enc _ => lifted os started H enc)
end Go.Proofs.YthimnkmoeonheaaDoor.rootPlays
namespace Go.Proofs.YthimnkmoeonheaaDoor
/-- The card: the row with its listed variables tied to the program's text. -/
theorem rootPlays_holds : Rows.RootPlaysCardSaid :=
  Claim7.holds_tied_plain_at .later [] [.data, .pinned] true (true, "1604ce66acf6c98cc2e42580213284ae5e04b43e225ff7e3f069f3ee6b3008f3") false rootPlays.over (fun _ h => by cases h) (by kernel_rfl) (fun _ h => by cases h) rootPlays_row_tie rfl ⟨rfl, rfl⟩ (by kernel_rfl) rfl
    (fun f fn hf hfn => by
      obtain rfl : f = 10 := Option.some.inj ((show Tryd.prog.funcNamed "strongroom/strongroomlaw08.RootPlays" = some 10 by kernel_rfl).symm.trans hf) |>.symm
      obtain rfl : fn = Tryd.f10 := (Option.some.inj (Tryd.func10.symm.trans hfn)).symm
      exact ⟨by kernel_rfl, fun j t ht => by
        have hm : t ∈ Tryd.f10.params.toList := Array.mem_def.1 (Array.mem_of_getElem? ht)
        have hall : (Tryd.f10.params.toList.all fun u => !Tryd.prog.wantsStandIn u) = true := by kernel_rfl
        show Tryd.prog.wantsStandIn t = false
        simpa using List.all_eq_true.1 hall t hm⟩)
    (by kernel_rfl)
#print axioms rootPlays_holds
end Go.Proofs.YthimnkmoeonheaaDoor
