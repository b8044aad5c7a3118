/- The walks of package runs: Put, Get, each once. -/
import Derived.Test.YthbipcjgpocpaaaGreatPlainRuns
import Derived.Test.YthbipcjgpocpaaaGreatMem
import Derived.Test.YthbipcjgpocpaaaGreatOrd
import Derived.Deep.LoopGhost
import Derived.Deep.DeepCutAuto
namespace Go.Proofs.YthbipcjgpocpaaaGreat
open Go.RowKit
set_option linter.unusedSimpArgs false
set_option linter.unusedVariables false

def runCells (r : Int × Nat) : List Value := [.int .i64 r.1, .int .u64 (r.2 : Int)]
theorem runs_wide (R : List (Int × Nat)) : ∀ x ∈ R.map runCells, x.length = 2 := by
  intro x hx; obtain ⟨r, _, rfl⟩ := List.mem_map.1 hx; rfl
theorem run_info : (Tryz.prog.info? 98).map (fun i => (i.zero, i.size, i.bytes)) = some (some (.agg #[.int .i64 0, .int .u64 0]), 2, 16) := by kernel_rfl
theorem run_one (r : Int × Nat) : ∀ u ∈ [runCells r].flatten, u.oneCell' = true := by
  intro u hu; simp [runCells] at hu; rcases hu with rfl | rfl <;> rfl
theorem runs_set (R : List (Int × Nat)) (x : Int) (k k' : Nat) : ((R ++ [(x, k)]).map runCells).flatten.set (R.length * 2 + 1) (.int .u64 (k' : Int)) = ((R ++ [(x, k')]).map runCells).flatten := by
  have h : (R.map runCells).flatten.length = R.length * 2 := by rw [flat_length _ (runs_wide R), List.length_map]
  rw [List.map_append, List.map_append, List.flatten_append, List.flatten_append, List.set_append_right _ _ (by rw [h]; omega), h]
  rw [show R.length * 2 + 1 - R.length * 2 = 1 from by omega]
  rfl
theorem runs_at (R : List (Int × Nat)) (x : Int) (k : Nat) : ((R ++ [(x, k)]).map runCells).flatten[R.length * 2 + 1]? = some (.int .u64 (k : Int)) := by
  have h : (R.map runCells).flatten.length = R.length * 2 := by rw [flat_length _ (runs_wide R), List.length_map]
  rw [List.map_append, List.flatten_append, List.getElem?_append_right (by rw [h]; omega), h]
  rw [show R.length * 2 + 1 - R.length * 2 = 1 from by omega]
  rfl

theorem addRun_new (R : List (Int × Nat)) (x : Int) (h : ∀ y, R.getLast? = some y → y.1 ≠ x) : addRun R x = R ++ [(x, 1)] := addRun_other R x h

set_option maxRecDepth 100000 in
set_option maxHeartbeats 4000000 in
theorem rput_any (a : Option Addr) (n c : Nat) (L : List Int) (w : World) (hs : Sl w a n c (L.map intV)) (hw : ∀ x ∈ L, (Lit.int .i64 x).wf = true) (hn : n ≤ 1000) :
    Calls Tryz.prog 48 #[.slice a n c] w fun e w' => ∃ a' m c', e = .returned (.slice a' m c') ∧ Sl w' a' m c' ((putRuns L).map byteV) ∧ (∀ y, a' = some y → w.heap.size ≤ y.block) ∧ Keeps No w w' := by
  have hlen : L.length = n := by simpa using hs.len
  have Hlen := Lib.hid hlen
  have Hw := Lib.hid hw
  clear hlen hw
  go_enter Tryz.func48, Tryz.ntmps48
  go_wp2_with fail
  go_loopg [3, 11] n (fun q v3 i wr => ∃ (j : Nat) (v : Value) (R : List (Int × Nat)), v = v3 ∧ j ≤ n ∧ q = n - j ∧ i = .int .i64 j ∧ R = runsOf (L.take j) ∧ R.length ≤ j ∧ (∀ r ∈ R, r.2 ≤ j) ∧ wr.ownsRow w.heap.size 98 2 v R.length (R.map runCells).flatten ∧ Keeps No w wr)
  case atStart => exact ⟨0, _, [], rfl, Nat.zero_le _, rfl, rfl, rfl, Nat.le_refl _, (fun r hr => by simp at hr), World.ownsRow_nil _ _ _ _, Keeps.refl _ _⟩
  case round =>
    obtain ⟨j, v, R, rfl, hj, hq, rfl, hR, hRj, hRk, hown, hkr⟩ := hrel
    have Hq := Lib.hid hq
    have HR := Lib.hid hR
    have HRk := Lib.hid hRk
    clear hq hR hRk
    by_cases hlt : j < n
    · have hjL : j < L.length := by rw [Hlen.out]; exact hlt
      have hsr := hs.kept hkr
      have hix := hsr.ix (P := Tryz.prog) Tryz.underlying63 (by kernel_rfl) hlt .i64
      have hc := hsr.at_ hlt
      obtain ⟨x, hx⟩ : ∃ x, x = L[j] := ⟨_, rfl⟩
      have hb : (L.map intV).getD j undef = .int .i64 x := by rw [hx]; simp [hjL, intV]
      rw [hb] at hc
      have hsn : runsOf (L.take (j + 1)) = addRun R x := by rw [List.take_succ_eq_append_getElem hjL, runsOf_snoc, ← HR.out, ← hx]
      have Hsn := Lib.hid hsn
      have Hx := Lib.hid hx
      clear hb hsn hx
      obtain ⟨pv, hpv⟩ : ∃ pv, pv = L.getD (j - 1) 0 := ⟨_, rfl⟩
      have Hpv := Lib.hid hpv
      clear hpv
      go_upto_region 5 with fail
      go_cut [26] (fun t wx => t = .bool (decide (j = 0 ∨ x ≠ pv)) ∧ wx = wr)
      case first =>
        rcases Nat.eq_zero_or_pos j with h0 | h0
        · subst h0
          go_wp2_with fail
          go_meet
          exact ⟨by simp, rfl⟩
        · have hjm : j - 1 < n := by omega
          have hixp := hsr.ixz (P := Tryz.prog) Tryz.underlying63 (by kernel_rfl) ((j : Int) - 1) (i := j - 1) (by omega) hjm .i64
          have hcp := hsr.at_ hjm
          have hbp : (L.map intV).getD (j - 1) undef = .int .i64 pv := by
            have hjm' : j - 1 < L.length := by omega
            rw [Hpv.out]; simp [hjm', intV]
          rw [hbp] at hcp
          have hj0 : ((j : Int) == 0) = false := by simp; omega
          by_cases hxp : x = pv
          · have hne : (x != pv) = false := by simp [hxp]
            have Hxp := Lib.hid hxp
            clear hxp hbp
            go_wp2_with fail
            go_meet
            exact ⟨by rw [decide_eq_false]; simp [Hxp.out]; omega, rfl⟩
          · have hne : (x != pv) = true := by simp [hxp]
            have Hxp := Lib.hid hxp
            clear hxp hbp
            go_wp2_with fail
            go_meet
            exact ⟨by rw [decide_eq_true]; exact .inr Hxp.out, rfl⟩
      case rest =>
        obtain ⟨rfl, rfl⟩ := hcut
        by_cases hnd : j = 0 ∨ x ≠ pv
        · have hd : decide (j = 0 ∨ x ≠ pv) = true := decide_eq_true hnd
          rw [hd]
          have hadd : addRun R x = R ++ [(x, 1)] := by
            refine addRun_new R x ?_
            intro y hy
            rcases Nat.eq_zero_or_pos j with h0 | h0
            · have := HR.out
              rw [h0] at this
              rw [this] at hy
              simp [runsOf] at hy
            · have hxp : x ≠ pv := by
                rcases hnd with h | h
                · omega
                · exact h
              have hl : R.getLast?.map (·.1) = some pv := by
                rw [HR.out, show L.take j = L.take (j - 1) ++ [pv] from ?_, runsOf_snoc, addRun_last]
                obtain ⟨i, rfl⟩ : ∃ i, j = i + 1 := ⟨j - 1, by omega⟩
                rw [Hpv.out]
                have hi : i < L.length := by omega
                rw [List.take_succ_eq_append_getElem hi]
                simp [hi]
              rw [hy] at hl
              simp at hl
              rw [hl]
              exact fun e => hxp e.symm
          have Hadd := Lib.hid hadd
          have Hnd := Lib.hid hnd
          clear hadd hnd hd
          go_wp2_with (at_builtin; go_loud (refine app_ownK rfl _ _ 96 rfl w.heap.size 98 _ 2 16 Tryz.underlying96 run_info rfl (by decide) (by decide) _ R.length (R.map runCells).flatten rfl (hown.alloc _) _ 1 1 [runCells (x, 0)] rfl (SlK.one _ _ _ rfl) ?h1 ?hb ?hB ?_))
          case h1 => exact run_one (x, 0)
          case hb => omega
          case hB => have := hkr.size; simp; omega
          intro v' w1 hown1 hg1 hblk
          obtain ⟨g, cap, rfl⟩ : ∃ g cap, v' = .slice (some ⟨g, 0, none⟩) (R.length + 1) cap := by
            rcases hown1.2 with ⟨_, h0⟩ | ⟨g, cap, cur, h, _⟩
            · exact absurd h0 (by simp [runCells])
            · exact ⟨g, cap, h⟩
          have e1 : (R.map runCells).flatten ++ runCells (x, 0) = ((R ++ [(x, 0)]).map runCells).flatten := by simp
          rw [e1] at hown1
          have hcell := hown1.cellAt (R.length * 2 + 1) (by omega)
          have hfr := hown1.frozenAt (R.length * 2 + 1)
          have hst := hown1.stored (R.length * 2 + 1) (.int .u64 ((0 + 1 : Nat) : Int))
          rw [runs_at] at hcell
          rw [runs_set] at hst
          go_wp2_with fail
          go_roundg (gk - 1)
          case rel =>
            have hown2 := hst.1
            refine ⟨j + 1, _, R ++ [(x, 0 + 1)], rfl, by omega, by have := Hq.out; omega, by go_num, by rw [Hsn.out, Hadd.out], by simp; omega, ?_, ?_, ?_⟩
            · intro r hr
              rcases List.mem_append.1 hr with hr | hr
              · have := HRk.out r hr; omega
              · simp at hr; subst hr; simp
            · rw [List.length_append]; exact hown2
            · have hk1 : Keeps No w w1 := (hkr.alloc _).grown hg1 (fun k hk hlt => absurd hlt (by have := hown.lt k hk; omega))
              have hgw : w.heap.size ≤ g := (hown1.lt g rfl).1
              exact hk1.setCell (fun h => absurd h (by simp; omega)) _
          case measure => have := Hq.out; omega
        · have hd : decide (j = 0 ∨ x ≠ pv) = false := decide_eq_false hnd
          rw [hd]
          have hjx : 0 < j ∧ x = pv := by
            refine ⟨by omega, ?_⟩
            exact Decidable.byContradiction fun h => hnd (.inr h)
          obtain ⟨R0, k, hR0⟩ : ∃ R0 k, R = R0 ++ [(x, k)] := by
            have hl : R.getLast?.map (·.1) = some x := by
              rw [HR.out, show L.take j = L.take (j - 1) ++ [x] from ?_, runsOf_snoc, addRun_last]
              obtain ⟨i, rfl⟩ : ∃ i, j = i + 1 := ⟨j - 1, by omega⟩
              rw [hjx.2, Hpv.out]
              have hi : i < L.length := by omega
              rw [List.take_succ_eq_append_getElem hi]
              simp [hi]
            cases hg : R.getLast? with
            | none => rw [hg] at hl; simp at hl
            | some y =>
              rw [hg] at hl
              simp at hl
              obtain ⟨ys, e⟩ := List.getLast?_eq_some_iff.1 hg
              exact ⟨ys, y.2, by rw [e, ← hl]⟩
          have hadd : addRun R x = R0 ++ [(x, k + 1)] := by rw [hR0, addRun_same]
          have hk : k ≤ j := HRk.out (x, k) (by rw [hR0]; simp)
          have Hadd := Lib.hid hadd
          have hl : R.length = R0.length + 1 := by rw [hR0]; simp
          rw [hl, hR0] at hown
          have HR0 := Lib.hid hR0
          have Hl := Lib.hid hl
          clear hadd hnd hd hjx hR0 hl
          obtain ⟨g, cap, rfl⟩ : ∃ g cap, v = .slice (some ⟨g, 0, none⟩) (R0.length + 1) cap := by
            rcases hown.2 with ⟨_, h0⟩ | ⟨g, cap, cur, h, _⟩
            · exact absurd h0 (by simp [runCells])
            · exact ⟨g, cap, h⟩
          have hcell := hown.cellAt (R0.length * 2 + 1) (by omega)
          have hfr := hown.frozenAt (R0.length * 2 + 1)
          have hst := hown.stored (R0.length * 2 + 1) (.int .u64 ((k + 1 : Nat) : Int))
          rw [runs_at] at hcell
          rw [runs_set] at hst
          have hlR : R0.length + 1 ≤ j := by have := Hl.out; omega
          go_wp2_with fail
          go_roundg (gk - 1)
          case rel =>
            have hown2 := hst.1
            refine ⟨j + 1, _, R0 ++ [(x, k + 1)], rfl, by omega, by have := Hq.out; omega, by go_num, by rw [Hsn.out, Hadd.out], by simp; omega, ?_, ?_, ?_⟩
            · intro r hr
              rcases List.mem_append.1 hr with hr | hr
              · have := HRk.out r (by rw [HR0.out]; simp [hr]); omega
              · simp at hr; subst hr; simp; omega
            · rw [List.length_append]; exact hown2
            · have hgw : w.heap.size ≤ g := (hown.lt g rfl).1
              exact hkr.setCell (fun h => absurd h (by simp; omega)) _
          case measure => have := Hq.out; omega
    · obtain rfl : j = n := by omega
      have hRL : R = runsOf L := by rw [HR.out, List.take_of_length_le (by rw [Hlen.out]; exact Nat.le_refl _)]
      obtain ⟨a3, c3, rfl, hsR, hfR⟩ := SlK.ofOwn (k := 2) (by decide) (runs_wide R) hown
      have HRL := Lib.hid hRL
      have hRn : R.length ≤ 1000 := by omega
      have hwR : ∀ r ∈ R, (Lit.int .i64 r.1).wf = true := fun r hr => Hw.out _ (runsOf_mem L r (by rw [← hRL]; exact hr))
      have HwR := Lib.hid hwR
      clear hRL hwR
      go_wp2_with fail
      refine (natural_any none 0 0 [] R.length wr (Sl.none _) (by omega) (by omega)).mono ?_
      rintro e w1 ⟨v1, rfl, hown1, hk1⟩
      have hsR1 := hsR.kept hk1
      have hsz1 := hkr.size
      go_wp2_with fail
      go_loopg [6, 49] R.length (fun q v6 i wx => ∃ (t : Nat) (v : Value) (D : List UInt8), v = v6 ∧ t ≤ R.length ∧ q = R.length - t ∧ i = .int .i64 t ∧ D = nat7 R.length ++ (R.take t).flatMap runB ∧ D.length ≤ 10 + 20 * t ∧ wx.ownsRow w.heap.size 5 1 v D.length (D.map byteV) ∧ Keeps No w1 wx)
      case atStart =>
        refine ⟨0, _, nat7 R.length, rfl, Nat.zero_le _, rfl, rfl, by simp, by have := nat7_len64 R.length (by omega); omega, ?_, Keeps.refl _ _⟩
        have := own_le hown1 hsz1
        simpa using this
      case round =>
        obtain ⟨t, v, D, rfl, ht, hq, rfl, hD, hDl, hown2, hk2⟩ := hrel
        have HD := Lib.hid hD
        have Hq2 := Lib.hid hq
        clear hD hq
        have hsR2 := hsR1.kept hk2
        have hsz2 := hk2.size
        have hsz1' := hk1.size
        by_cases hlt : t < R.length
        · obtain ⟨x, hx⟩ : ∃ x, x = R[t] := ⟨_, rfl⟩
          have hix := hsR2.ix (P := Tryz.prog) Tryz.underlying96 (by kernel_rfl) hlt .i64
          have hld := (hsR2.load (P := Tryz.prog) Tryz.underlying98 rfl (by kernel_rfl) hlt).1
          have hb : (R.map runCells).getD t [] = runCells x := by rw [hx]; simp [hlt]
          rw [hb] at hld
          unfold runCells at hld
          have hxw : (Lit.int .i64 x.1).wf = true := HwR.out _ (by rw [hx]; exact List.getElem_mem hlt)
          have hxk : x.2 ≤ 1000 := by have := HRk.out x (by rw [hx]; exact List.getElem_mem hlt); omega
          have htk : (R.take (t + 1)).flatMap runB = (R.take t).flatMap runB ++ runB x := by rw [List.take_succ_eq_append_getElem hlt, ← hx]; simp
          have Htk := Lib.hid htk
          have Hx := Lib.hid hx
          clear htk hx hb
          go_upto_region 13 with (refine wpList_loadV rfl 98 _ rfl _ rfl _ hld ?_)
          have hbox := heap_alloc_new wr (.cells #[.int .i64 x.1, .int .u64 (x.2 : Int)] 98)
          have hbox0 := cell_of_row _ wr.heap.size 0 _ _ (0, 0) hbox
          have hbox1 := cell_of_row _ wr.heap.size 1 _ _ (0, 0) hbox
          obtain ⟨aD, cD, rfl, hsD, hfD⟩ := Sl.ofOwn hown2
          have hkB : Keeps No wr (wr.alloc (.cells #[.int .i64 x.1, .int .u64 (x.2 : Int)] 98)) := (Keeps.refl No wr).alloc _
          have hsDB := hsD.kept hkB.drew
          have h10 := nat7_len64 x.2 (by omega)
          have h10' := nat7_len64 (fold x.1) (fold_lt (wf_i64_iff hxw))
          have hszB := hkB.size
          refine wp_region_held_drew (S := fun wx => wx.cell? ⟨wr.heap.size, 0, none⟩ = some (.int .i64 x.1) ∧ wx.cell? ⟨wr.heap.size, 1, none⟩ = some (.int .u64 (x.2 : Int))) (by kernel_rfl) (⟨hbox0, hbox1⟩) (fun hS => ?_)
          refine tk (i := 0) (oi := ⟨some 53, _, _, _, _, _⟩) (v := ?_) rfl (by kernel_rfl) (fun _ _ _ h => h) (by assumption) (by rfl) (fun w hSw => ?_) ?_; rotate_left; (focus (first | (go_simp; done) | (go_simp; with_reducible rfl))); simp only [Act.put, List.setIfInBounds_toArray, List.set_cons_zero, List.set_cons_succ]
          refine tk (i := 1) (oi := ⟨some 54, _, _, _, _, _⟩) (v := ?_) rfl (by kernel_rfl) (fun _ _ _ h => h) (by assumption) (by rfl) (fun w hSw => ?_) ?_; rotate_left; (focus (first | (go_simp; done) | (go_simp; with_reducible rfl))); simp only [Act.put, List.setIfInBounds_toArray, List.set_cons_zero, List.set_cons_succ]
          refine tk (i := 2) (oi := ⟨some 55, _, _, _, _, _⟩) (v := ?_) rfl (by kernel_rfl) (fun _ _ _ h => h) (by assumption) (by rfl) (fun w hSw => ?_) ?_; rotate_left; (focus (first | (go_simp; done) | (go_simp; with_reducible rfl))); simp only [Act.put, List.setIfInBounds_toArray, List.set_cons_zero, List.set_cons_succ]
          refine tk (i := 4) (oi := ⟨some 57, _, _, _, _, _⟩) (v := ?_) rfl (by kernel_rfl) (fun _ _ _ h => h) (by assumption) (by rfl) (fun w hSw => ?_) ?_; rotate_left; (focus (first | (go_simp; done) | (go_simp; with_reducible rfl))); simp only [Act.put, List.setIfInBounds_toArray, List.set_cons_zero, List.set_cons_succ]
          refine tk (i := 5) (oi := ⟨some 58, _, _, _, _, _⟩) (v := ?_) rfl (by kernel_rfl) (fun _ _ _ h => h) (by assumption) (by rfl) (fun w hSw => ?_) ?_; rotate_left; (focus (first | (go_simp; done) | (go_simp; with_reducible rfl))); simp only [Act.put, List.setIfInBounds_toArray, List.set_cons_zero, List.set_cons_succ]
          refine alone (i := 3) (oi := ⟨some 56, _, _, _, _, _⟩) rfl (by kernel_rfl) (by rfl) (fun K hK => ?_); go_simp
          refine (number_any _ _ _ D x.1 _ hsDB (by omega) hxw).mono ?_
          rintro e w4 ⟨v4, rfl, hown4, hk4⟩
          obtain ⟨a4, c4, rfl, hs4, hf4⟩ := Sl.ofOwn hown4
          refine hK.out (fun wx => wx.cell? ⟨wr.heap.size, 0, none⟩ = some (.int .i64 x.1) ∧ wx.cell? ⟨wr.heap.size, 1, none⟩ = some (.int .u64 (x.2 : Int))) _ _ (fun _ h => h) (⟨hk4.cell hS.1 (not_No _), hk4.cell hS.2 (not_No _)⟩) ?_
          clear hK K hS
          intro hS
          refine alone (i := 6) (oi := ⟨some 59, _, _, _, _, _⟩) rfl (by kernel_rfl) (by rfl) (fun K hK => ?_); go_simp
          refine (natural_any _ _ _ _ x.2 _ hs4 (by omega) (by omega)).mono ?_
          rintro e w5 ⟨v5, rfl, hown5, hk5⟩
          refine hK.out (fun wx => wx.cell? ⟨wr.heap.size, 0, none⟩ = some (.int .i64 x.1) ∧ wx.cell? ⟨wr.heap.size, 1, none⟩ = some (.int .u64 (x.2 : Int))) _ _ (fun _ h => h) (⟨hk5.cell hS.1 (not_No _), hk5.cell hS.2 (not_No _)⟩) ?_
          clear hK K hS
          intro hS
          refine tk (i := 7) (oi := ⟨some 6, _, _, _, _, _⟩) (v := ?_) rfl (by kernel_rfl) (fun _ _ _ h => h) (by assumption) (by rfl) (fun w hSw => ?_) ?_; rotate_left; (focus (first | (go_simp; done) | (go_simp; with_reducible rfl))); simp only [Act.put, List.setIfInBounds_toArray, List.set_cons_zero, List.set_cons_succ]
          refine wpAnyH_done (by kernel_rfl) ?_ _
          clear hS
          go_wp2_with fail
          go_roundg (gk - 1)
          case rel =>
            have z4 := hk4.size
            have z5 := hk5.size
            have zB : (wr.alloc (.cells #[.int .i64 x.1, .int .u64 (x.2 : Int)] 98)).drew.heap.size = wr.heap.size + 1 := by simp
            have hD5 : D ++ nat7 (fold x.1) ++ nat7 x.2 = nat7 R.length ++ (R.take (t + 1)).flatMap runB := by rw [HD.out, Htk.out]; simp [runB]
            refine ⟨t + 1, _, D ++ nat7 (fold x.1) ++ nat7 x.2, rfl, by omega, by have := Hq2.out; omega, by go_num, hD5, by simp; omega, ?_, ((hk2.trans hkB.drew (fun _ _ h => h)).trans hk4 (fun _ _ h => h)).trans hk5 (fun _ _ h => h)⟩
            have := own_le (base' := w.heap.size) hown5 (by omega)
            simpa [Nat.add_assoc] using this
          case measure => have := Hq2.out; omega
        · obtain rfl : t = R.length := by omega
          go_wp2_with fail
          go_ret
          have hDP : D = putRuns L := by rw [HD.out, List.take_length, HRL.out]; rfl
          obtain ⟨aD, cD, rfl, hsD, hfD⟩ := Sl.ofOwn hown2
          refine ⟨_, _, _, rfl, by rw [← hDP]; exact hsD, fun y hy => ?_, (hkr.trans hk1 (fun _ _ h => h)).trans hk2 (fun _ _ h => h)⟩
          obtain ⟨g, rfl, hg, _⟩ := hfD y hy
          exact hg
end Go.Proofs.YthbipcjgpocpaaaGreat
