/- The law PageHandles holds of every input: the row, out of its walk, and the tied card. The listed variables are never read. -/
import Derived.Test.YthimnkmoeonheaaDoorRows
import Derived.Test.YthimnkmoeonheaaDoorRowKit
import Derived.Test.YthimnkmoeonheaaDoorRowGen
import Derived.Test.YthimnkmoeonheaaDoorLawSevenH
import Derived.Test.YthimnkmoeonheaaDoorCards
import Derived.Test.YthimnkmoeonheaaDoorTie
import Derived.ChangeOld
import Derived.OpenShut
import Derived.LaidMore
import Derived.Lay
import Derived.SevenTiedAt
import Derived.Stop.Joined
namespace Go.Proofs.YthimnkmoeonheaaDoor.pageHandles
open Go.ChangeShapes Go.WideShapes Go.ChangeAt Go.RowKit
open Go.ChangeMaps (open_string shut_string)
set_option linter.unusedVariables false
set_option linter.unusedSimpArgs false
theorem own : ownKnob Tryd.prog.godebug = none := by kernel_rfl
theorem laidOut : laidOutB Tryd.prog = true := by kernel_rfl
set_option maxRecDepth 100000 in
theorem lifted (os : Os) (started : os.Started) (H : Type) (enc : TypeId × Value → H) :
    ReturnsInHanded {} Tryd.checked os 4 .any (fun w args => (Rows.pageHandlesSpec.pre enc Tryd.prog Tryd.f4 Rows.pageHandlesRow.domain false w args ∧ laidMetH Tryd.prog Rows.pageHandlesRow.laid w) ∧ sizedMet enc Tryd.prog Tryd.f4 (OpenSpec.ofChange Rows.pageHandlesSpec) false w args) (Rows.pageHandlesSpec.post enc Tryd.prog Tryd.f4 false true false false) := by
  refine returnsInHanded_of_change_and (C := Tryd.checked) (X := fun w _ => laidMetH Tryd.prog Rows.pageHandlesRow.laid w) (fun _ _ _ hh h => h.of_heap hh) own started (by kernel_rfl) Tryd.func4
    (ChangeSpec.witness_shaped (enc := enc) (C := Tryd.checked) (os := os) (X := fun w _ => laidMetH Tryd.prog Rows.pageHandlesRow.laid w) false (World.laidAll Tryd.prog os Rows.pageHandlesRow.laid) #[.slice none 0 0, .agg #[.int .i64 0, .int .i64 0, .int .i64 0, .int .i64 0, .int .i64 0], .int .i64 0] 8 (World.laidAll_os _ _ _)
      (World.shaped_of_ZipB (by kernel_rfl) (by kernel_rfl)) (by kernel_rfl) (by kernel_rfl) (by kernel_rfl)
      (by rw [MakeChecks.laidMetH_plain _ _ _ (by kernel_rfl)]; exact laidMet_laidAll _ (by kernel_rfl) (by kernel_rfl))) ?_
  intro W base args ds gs before hval0 hW hcnd hsz0 _ _
  have hsz : (DataW.weightsEach Tryd.prog (Tryd.f4.params.toList ++ Rows.pageHandlesSpec.plain.varTypes Tryd.prog) (ds ++ gs)).all (· ≤ reachBytes) = true := hsz0
  have hval : ∀ (j : Nat) t v, Tryd.f4.params[j]? = some t → args[j]? = some v → Value.okWide Tryd.prog W .any base t v := hval0
  have hW' := hW
  obtain ⟨p, q, hA0, hV, rfl, hfz, hnd⟩ := hW
  have hA : DataW.TrodAll enc Tryd.prog W 0 (fun _ => true) true Tryd.f4.params.toList args.toList ds p := hA0
  rw [Tryd.params4] at hA hval hsz
  obtain ⟨v0, vs0, d0, ds0, p0, q0, hargs, rfl, rfl, h0, r0⟩ := trodAll_cons hA
  obtain ⟨v1, vs1, d1, ds1, p1, q1, rfl, rfl, rfl, h1, r1⟩ := trodAll_cons r0
  obtain ⟨v2, vs2, d2, ds2, p2, q2, rfl, rfl, rfl, h2, r2⟩ := trodAll_cons r1
  obtain ⟨rfl, rfl, rfl⟩ := trodAll_nil r2
  obtain rfl : args = #[v0, v1, v2] := by cases args; simp_all
  obtain ⟨rfl, rfl⟩ := trodVars_none hV
  obtain ⟨a0, n0, c0, rfl⟩ := okWide_slice Tryd.underlying35 (hval 0 35 v0 rfl rfl)
  have k0 := h0
  have lt0 : ∀ x ∈ p0, x.block < W.heap.size := by obtain ⟨m, hm⟩ := k0; exact DataW.trod_lt m _ _ _ hm
  obtain ⟨fuel0, hf0⟩ := h0
  obtain ⟨l0, s0, e0⟩ := arg_slice (0 : UInt8) byteV Tryd.underlying35 (by kernel_rfl) (fun k u y h => of_byte Tryd.underlying5 k u y h) hf0
  have y0 := arg_len hsz 0 rfl rfl Tryd.underlying35 (show Tryd.prog.bytesOf 5 = 1 by kernel_rfl) e0
  rw [Nat.mul_one] at y0
  have k1 := h1
  have lt1 : ∀ x ∈ p1, x.block < W.heap.size := by obtain ⟨m, hm⟩ := k1; exact DataW.trod_lt m _ _ _ hm
  obtain ⟨x1, rfl, g1⟩ := arg_agg_R (by kernel_rfl) (rd_struct3 Tryd.underlying25 (by kernel_rfl) (rd_struct3 Tryd.underlying23 (by kernel_rfl) (rd_i64 Tryd.underlying3 (by kernel_rfl)) (rd_i64 Tryd.underlying3 (by kernel_rfl)) (rd_i64 Tryd.underlying3 (by kernel_rfl)) rfl rfl rfl) (rd_i64 Tryd.underlying3 (by kernel_rfl)) (rd_i64 Tryd.underlying3 (by kernel_rfl)) rfl rfl rfl) (hval 1 25 v1 rfl rfl) h1 (light_arg hsz (j := 1) rfl rfl)
  obtain ⟨n2, rfl, rfl, rfl, w2⟩ := open_int Tryd.underlying3 (hval 2 3 v2 rfl rfl) h2
  clear hA0 hval0 hsz0 hsz
  refine (pageHandles_any a0 n0 c0 l0 x1 n2 W s0 y0 w2).mono fun e W' ⟨he, hk⟩ => ?_
  have bel := hk.below
  subst he
  exact ⟨_, rfl, _, _, _, [], _, [], hW', trodAll_mk1 (shut_bool Tryd.underlying4 _), (trodAll_cons_mk (Below.trod laidOut (by kernel_rfl) (of_decide_eq_true (by kernel_rfl)) k0 bel lt0) (trodAll_cons_mk (Below.trod laidOut (by kernel_rfl) (of_decide_eq_true (by kernel_rfl)) k1 bel lt1) (trodAll_cons_mk (shut_int Tryd.underlying3 w2) trodAll_mk0))), rfl, bel.frame _, fun h => by cases h⟩
theorem over : Rows.pageHandlesRow.holds Tryd.pinned (OpenSpec.ofChange Rows.pageHandlesSpec) :=
  OpenClaim.holds_of_wide 4 Tryd.f4 rfl rfl rfl rfl rfl rfl rfl ⟨rfl, rfl, rfl, rfl, rfl⟩ rfl rfl rfl rfl rfl (by kernel_rfl) Tryd.func4 (by kernel_rfl)
    (of_decide_eq_true (by kernel_rfl)) (by unfold Func.isWrapper; first | (rw [if_pos (by decide +kernel)]; kernel_rfl) | (rw [if_neg (by decide +kernel)]; exact ⟨rfl, rfl⟩))
    (fun os started H enc _ => lifted os started H enc)
end Go.Proofs.YthimnkmoeonheaaDoor.pageHandles
namespace Go.Proofs.YthimnkmoeonheaaDoor
/-- The card: the row with its listed variables tied to the program's text. -/
theorem pageHandles_holds : Rows.PageHandlesCardSaid :=
  Claim7.holds_tied_plain_at .later [] [.data, .pinned] true (true, "1604ce66acf6c98cc2e42580213284ae5e04b43e225ff7e3f069f3ee6b3008f3") false pageHandles.over (fun _ h => by cases h) (by kernel_rfl) (fun _ h => by cases h) pageHandles_row_tie rfl ⟨rfl, rfl⟩ (by kernel_rfl) rfl
    (fun f fn hf hfn => by
      obtain rfl : f = 4 := Option.some.inj ((show Tryd.prog.funcNamed "strongroom/strongroomlaw07.PageHandles" = some 4 by kernel_rfl).symm.trans hf) |>.symm
      obtain rfl : fn = Tryd.f4 := (Option.some.inj (Tryd.func4.symm.trans hfn)).symm
      exact ⟨by kernel_rfl, fun j t ht => by
        have hm : t ∈ Tryd.f4.params.toList := Array.mem_def.1 (Array.mem_of_getElem? ht)
        have hall : (Tryd.f4.params.toList.all fun u => !Tryd.prog.wantsStandIn u) = true := by kernel_rfl
        show Tryd.prog.wantsStandIn t = false
        simpa using List.all_eq_true.1 hall t hm⟩)
    (by kernel_rfl)
#print axioms pageHandles_holds
end Go.Proofs.YthimnkmoeonheaaDoor
