/- The walk of the statement ColumnPuts. -/
import Derived.Test.YthbipcjgpocpaaaLawFourteen
import Derived.Test.YthbipcjgpocpaaaRefCol
namespace Go.Proofs.Ythbipcjgpocpaaa
open Go.RowKit
set_option linter.unusedSimpArgs false
set_option linter.unusedVariables false
set_option maxRecDepth 100000

set_option maxHeartbeats 8000000 in
theorem columnPuts_any (k : Int) (a : Option Addr) (n c : Nat) (L : List Va) (w : World) (hs : SlK w 4 a n c (L.map Va.cells)) (hL : ∀ v ∈ L, v.wf) (hn : n ≤ 140737488351232) :
    Calls Try.prog 7 #[.int .i64 k, .slice a n c] w fun e w' => e = .returned (.bool true) ∧ Keeps No w w' := by
  have hlen : L.length = n := by simpa using hs.len
  have Hlen := Lib.hid hlen
  have hput := fun wx hs => colput_any k a n c L wx hs hL
  have hcodes := fun wx hs => codes_any k a n c L wx hs hL
  have hright := fun wx hs => rright14_any k a n c L wx hs hL
  have HL := Lib.hid hL
  clear hlen hL
  go_enter Try.func7, Try.ntmps7
  go_wp2_with fail
  refine (first14_any _).mono ?_
  rintro e w1 ⟨rfl, hk1⟩
  by_cases hbig : 300 < n
  · go_wp2_with fail
    go_ret
    exact ⟨rfl, hk1⟩
  have hs1 := hs.kept hk1
  go_wp2_with fail
  go_loopg [23] n (fun q i wr => ∃ (m : Nat), m ≤ n ∧ q = n - m ∧ i = .int .i64 (m : Int) ∧ Keeps No w1 wr)
  case atStart => exact ⟨0, Nat.zero_le _, rfl, rfl, Keeps.refl _ _⟩
  case round =>
    obtain ⟨m, hm, hq, rfl, hkr⟩ := hrel
    have Hq := Lib.hid hq
    clear hq
    have hsr := hs1.kept hkr
    by_cases hlt : m < n
    · have hlt' : m < L.length := by rw [Hlen.out]; exact hlt
      have hix := hsr.ix (P := Try.prog) Try.underlying33 val_size hlt .i64
      obtain ⟨hld, _⟩ := hsr.load (P := Try.prog) (ty := 39) Try.underlying39 rfl val_size hlt
      rw [vget L hlt'] at hld
      obtain ⟨x, hx⟩ : ∃ x, x = L.getD m Va.zero := ⟨_, rfl⟩
      rw [← hx] at hld
      clear hx
      obtain ⟨xk, xn, xs, xf⟩ := x
      unfold Va.cells at hld
      simp only at hld
      have hkN : Keeps No wr (wr.alloc (.cells #[.int .i64 xk, .int .i64 xn, .string xs, .int .u64 (xf : Int)] 39)) := (Keeps.refl No wr).alloc _
      by_cases hxb : 200 < xs.size
      · go_wp2_with (refine wpList_loadV (op := ⟨some 26, _, _, _, _, _⟩) rfl 39 (.tmp 25) rfl _ rfl _ hld ?_)
        go_ret
        exact ⟨rfl, (hk1.transNo hkr).transNo hkN⟩
      · go_wp2_with (refine wpList_loadV (op := ⟨some 26, _, _, _, _, _⟩) rfl 39 (.tmp 25) rfl _ rfl _ hld ?_)
        go_roundg (n - (m + 1))
        case measure => have := Hq.out; omega
        case rel => exact ⟨m + 1, by omega, rfl, by go_num, hkr.transNo hkN⟩
    obtain rfl : m = n := by omega
    have hk0r := hk1.transNo hkr
    obtain ⟨W, hW⟩ : ∃ x, x = wr := ⟨_, rfl⟩
    subst hW
    go_wp2_with fail
    refine (hput _ hsr).mono ?_
    intro e w2 h2
    cases hr : rightC k L with
    | false =>
      obtain ⟨rfl, hk2⟩ := h2.outNo hr
      have Hr := Lib.hid hr
      have hcd : codesL k L = [] := by unfold codesL; rw [hr]; rfl
      have Hcd := Lib.hid hcd
      clear hr h2 hcd
      go_wp2_with fail
      refine (hright _ (hsr.kept hk2)).mono ?_
      rintro e w3 ⟨rfl, hk3⟩
      rw [Hr.out]
      go_wp2_with fail
      refine (hcodes _ (hsr.kept (hk2.transNo hk3))).mono ?_
      rintro e w4 ⟨a4, c4, rfl, hs4, hk4⟩
      rw [Hcd.out]
      go_wp2_with fail
      go_ret
      exact ⟨rfl, ((hk0r.transNo hk2).transNo hk3).transNo hk4⟩
    | true =>
    obtain ⟨a2, c2, rfl, hs2, hk2⟩ := h2.outOk hr
    have Hr := Lib.hid hr
    have hcl := colPut_len hr HL.out
    have hF := fu_of hr HL.out
    have hn256 : m ≤ 256 := by rw [← Hlen.out]; exact (rightC_iff.1 hr).1.2.2
    have hcd : codesL k L = sizesC k (fullC L) := by unfold codesL; rw [hr]; rfl
    rw [sizesC_eq] at hcd
    have Hcd := Lib.hid hcd
    have HF := Lib.hid hF
    clear hr h2 hF hcd
    go_wp2_with fail
    refine (hright _ (hsr.kept hk2)).mono ?_
    rintro e w3 ⟨rfl, hk3⟩
    rw [Hr.out]
    have hkA := hk2.transNo hk3
    have hsA := hsr.kept hkA
    have hs23 := hs2.kept hk3
    clear hright hput
    go_wp2_with fail
    go_loopg [56, 9] 4 (fun q i bv wr => ∃ (t : Nat) (X : List Int), t ≤ 4 ∧ q = 4 - t ∧ i = .int .i64 (t : Int) ∧ Hid (X = (List.range t).map fun c => sizeC (restC k (fullC L) c)) ∧ wr.ownsRow w3.heap.size 3 1 bv t (X.map intV) ∧ Keeps No w3 wr)
    case atStart => exact ⟨0, [], Nat.zero_le _, rfl, rfl, Lib.hid rfl, World.ownsRow_nil _ _ _ _, Keeps.refl _ _⟩
    case round =>
      obtain ⟨t, X, ht, hq2, rfl, HX, hown, hkx⟩ := hrel
      have Hq2 := Lib.hid hq2
      have hzr := hkx.size
      clear hq2
      have hsx := hsA.kept hkx
      by_cases hlt2 : t < 4
      · have hrg : ((List.range (t + 1)).map fun c => sizeC (restC k (fullC L) c)) = ((List.range t).map fun c => sizeC (restC k (fullC L) c)) ++ [sizeC (restC k (fullC L) t)] := by rw [List.range_succ, List.map_append]; rfl
        have Hrg := Lib.hid hrg
        clear hrg
        go_wp2_with fail
        refine (rfull_any a m c L _ hsx (by omega)).mono ?_
        rintro e w4 ⟨v4, rfl, hown4, hk4⟩
        obtain ⟨a4, c4, rfl, hs4, _⟩ := SlK.ofOwn (k := 4) (by decide) (vals_wide (fullC L)) hown4
        go_wp2_with fail
        refine (rrest_any k t hlt2 a4 _ c4 (fullC L) _ hs4 HF.out).mono ?_
        intro e w5 h5
        rcases h5 with ⟨hr0, rfl, hk5⟩ | ⟨b, a5, c5, hrb, rfl, hs5, hk5⟩
        · have hz : sizeC (restC k (fullC L) t) = -1 := by rw [hr0]; rfl
          have Hz := Lib.hid hz
          have hk45 := hk4.transNo hk5
          have hown5 := hk45.own hown (fun _ _ => not_No _)
          have hkB : Keeps No w5 (w5.alloc (.cells #[.int .i64 (-1)] 3)) := (Keeps.refl No w5).alloc _
          have hownB := hkB.own hown5 (fun _ _ => not_No _)
          clear hr0 hz hown4 hs4
          go_wp2_with (at_builtin; go_loud (refine app_own rfl _ _ 41 rfl w3.heap.size 3 (.int .i64 0) 8 Try.underlying41 int_infoX rfl (by decide) _ t (X.map intV) rfl hownB _ 1 1 [.int .i64 (-1)] rfl (Sl.one _ _ _) ?h1 ?hb ?hB ?_))
          case h1 => intro u hu; simp at hu; subst hu; rfl
          case hb => omega
          case hB => exact ((hkx.transNo hk45).transNo hkB).size
          intro v7 w7 hown7 hg7
          go_wp2_with fail
          go_roundg (4 - (t + 1))
          case measure => have := Hq2.out; omega
          case rel => exact ⟨t + 1, X ++ [sizeC (restC k (fullC L) t)], by omega, rfl, by go_num, Lib.hid (by rw [Hrg.out, HX.out]), by rw [List.map_append, Hz.out]; exact hown7, ((hkx.transNo hk45).transNo hkB).grown hg7 (fun i hi hlt2 => by have := (hownB.lt i hi).1; exact absurd hlt2 (by omega))⟩
        · have hz : sizeC (restC k (fullC L) t) = (b.length : Int) := by rw [hrb]; rfl
          have Hz := Lib.hid hz
          have hk45 := hk4.transNo hk5
          have hown5 := hk45.own hown (fun _ _ => not_No _)
          have hbm : b.length ≤ 9223372036854775807 := by have h1 := hs5.le; have h2 := hs5.max; unfold maxLen at h2; omega
          generalize b.length = bl at hs5 Hz hbm ⊢
          have hkB : Keeps No w5 (w5.alloc (.cells #[.int .i64 (bl : Int)] 3)) := (Keeps.refl No w5).alloc _
          have hownB := hkB.own hown5 (fun _ _ => not_No _)
          clear hrb hz hown4 hs4 hs5
          go_wp2_with (at_builtin; go_loud (refine app_own rfl _ _ 41 rfl w3.heap.size 3 (.int .i64 0) 8 Try.underlying41 int_infoX rfl (by decide) _ t (X.map intV) rfl hownB _ 1 1 [.int .i64 (bl : Int)] rfl (Sl.one _ _ _) ?h1 ?hb ?hB ?_))
          case h1 => intro u hu; simp at hu; subst hu; rfl
          case hb => omega
          case hB => exact ((hkx.transNo hk45).transNo hkB).size
          intro v7 w7 hown7 hg7
          go_wp2_with fail
          go_roundg (4 - (t + 1))
          case measure => have := Hq2.out; omega
          case rel => exact ⟨t + 1, X ++ [sizeC (restC k (fullC L) t)], by omega, rfl, by go_num, Lib.hid (by rw [Hrg.out, HX.out]), by rw [List.map_append, Hz.out]; exact hown7, ((hkx.transNo hk45).transNo hkB).grown hg7 (fun i hi hlt2 => by have := (hownB.lt i hi).1; exact absurd hlt2 (by omega))⟩
      · obtain rfl : t = 4 := by omega
        have hX : X = codesL k L := by rw [HX.out, Hcd.out]
        have hc4 : (codesL k L).length = 4 := by rw [Hcd.out]; rfl
        obtain ⟨aX, cX, rfl, hsX, _⟩ := Sl.ofOwn hown
        rw [hX] at hsX
        obtain ⟨CD, hCD⟩ : ∃ CD, CD = codesL k L := ⟨_, rfl⟩
        rw [← hCD] at hsX hc4
        have HCD := Lib.hid hCD
        have hcl2 := hcl
        have hs2x := hs23.kept hkx
        have hdd := hs2x
        obtain ⟨D, hD⟩ : ∃ D, D = colPut k L := ⟨_, rfl⟩
        rw [← hD] at hs2x hcl2 ⊢
        have HD := Lib.hid hD
        obtain ⟨dl, hdl⟩ : ∃ dl, dl = D.length := ⟨_, rfl⟩
        rw [← hdl] at hs2x hcl2 ⊢
        have Hdl := Lib.hid hdl
        clear hX HX hown Hcd hcl hs23 hs2 hdd hCD hD hdl
        go_wp2_with fail
        refine (colget_any a2 dl c2 D _ hs2x (by omega)).mono ?_
        intro e w6 h6
        rw [HD.out] at h6
        obtain ⟨a6, c6, rfl, hs6, hk6⟩ := h6.outPut Hr.out HL.out
        rw [Hlen.out] at hs6 ⊢
        clear h6
        have hs26 := hs2x.kept hk6
        have hsL6 := hsx.kept hk6
        have hsX6 := hsX.kept hk6
        have hstr := fun wx (hx : Keeps No w6 wx) => (hs26.kept hx).str (P := Try.prog) 24 9 _ Try.underlying24 Try.underlying5 Try.underlying9
        go_wp2_with fail
        refine wp_region_held_drew (S := fun wx => Keeps No w6 wx) (by kernel_rfl) ((Keeps.refl No w6).drew) (fun hS => ?_)
        refine tk (i := 0) (oi := ⟨some 83, _, _, _, _, _⟩) (v := ?_) rfl (by kernel_rfl) (fun _ _ _ h => h) (by assumption) (by rfl) (fun w hSw => ?_) ?_; rotate_left; (focus (first | (go_simp; done) | (go_simp; with_reducible rfl))); simp only [Act.put, List.setIfInBounds_toArray, List.set_cons_zero, List.set_cons_succ]
        refine tk (i := 1) (oi := ⟨some 84, _, _, _, _, _⟩) (v := ?_) rfl (by kernel_rfl) (fun _ _ _ h => h) (by assumption) (by rfl) (fun w hSw => ?_) ?_; rotate_left; (focus (first | (go_simp; done) | (go_simp; with_reducible rfl))); simp only [Act.put, List.setIfInBounds_toArray, List.set_cons_zero, List.set_cons_succ]
        refine tk (i := 2) (oi := ⟨some 85, _, _, _, _, _⟩) (v := ?_) rfl (by kernel_rfl) (fun _ _ _ h => h) (by assumption) (by rfl) (fun w hSw => ?_) ?_; rotate_left; (focus (first | (go_simp; done) | (go_simp; with_reducible rfl))); simp only [Act.put, List.setIfInBounds_toArray, List.set_cons_zero, List.set_cons_succ]
        refine tk (i := 3) (oi := ⟨some 86, _, _, _, _, _⟩) (v := ?_) rfl (by kernel_rfl) (fun _ _ _ h => h) (by assumption) (by rfl) (fun w hSw => ?_) ?_; rotate_left; (focus (first | (go_simp; done) | (go_simp; with_reducible rfl))); simp only [Act.put, List.setIfInBounds_toArray, List.set_cons_zero, List.set_cons_succ]
        refine tk (i := 4) (oi := ⟨some 87, _, _, _, _, _⟩) (v := ?_) rfl (by kernel_rfl) (fun _ _ _ h => h) (by assumption) (by rfl) (fun w hSw => ?_) ?_; rotate_left; (focus (first | (go_simp; done) | (go_simp; with_reducible rfl))); simp only [Act.put, List.setIfInBounds_toArray, List.set_cons_zero, List.set_cons_succ]
        refine tk (i := 5) (oi := ⟨some 88, _, _, _, _, _⟩) (v := ?_) rfl (by kernel_rfl) (fun _ _ _ h => h) (by assumption) (by rfl) (fun w hSw => ?_) ?_; rotate_left; (focus (first | (go_simp; done) | (go_simp; with_reducible rfl))); simp only [Act.put, List.setIfInBounds_toArray, List.set_cons_zero, List.set_cons_succ]
        refine tk (i := 6) (oi := ⟨some 89, _, _, _, _, _⟩) (v := ?_) rfl (by kernel_rfl) (fun _ _ _ h => h) (by assumption) (by rfl) (fun w hSw => ?_) ?_; rotate_left; (focus (first | (go_simp; done) | (go_simp; with_reducible rfl))); simp only [Act.put, List.setIfInBounds_toArray, List.set_cons_zero, List.set_cons_succ]
        refine alone (i := 7) (oi := ⟨some 90, _, _, _, _, _⟩) rfl (by kernel_rfl) (by rfl) (fun K hK => ?_); go_simp
        refine (rcolput_any k a m c L _ (hsL6.kept hS) HL.out Hr.out).mono ?_
        rintro e w7 ⟨v7, rfl, hown7, hk7⟩
        obtain ⟨a7, c7, rfl, hs7, _⟩ := Sl.ofOwn hown7
        rw [← HD.out, ← Hdl.out] at hs7 ⊢
        have hk67 := hS.transNo hk7
        have hstr7 := fun wx (hx : Keeps No w7 wx) => (hs7.kept hx).str (P := Try.prog) 24 9 _ Try.underlying24 Try.underlying5 Try.underlying9
        have hsq := str_eq D D
        rw [decide_eq_true rfl] at hsq
        have hs67 := hs6.kept hk67
        have hsL7 := hsL6.kept hk67
        have hsX7 := hsX6.kept hk67
        refine hK.out (fun wx => Keeps No w7 wx) _ _ (fun _ hx => hS.transNo (Keeps.transNo (hk7) hx)) (Keeps.refl _ _) ?_
        clear hK K hS
        intro hS
        refine tk (i := 8) (oi := ⟨some 91, _, _, _, _, _⟩) (v := ?_) rfl (by kernel_rfl) (fun _ _ _ h => h) (by assumption) (by rfl) (fun w hSw => ?_) ?_; rotate_left; (focus (first | (go_simp; done) | (go_simp; with_reducible rfl))); simp only [Act.put, List.setIfInBounds_toArray, List.set_cons_zero, List.set_cons_succ]
        refine tk (i := 9) (oi := ⟨some 92, _, _, _, _, _⟩) (v := ?_) rfl (by kernel_rfl) (fun _ _ _ h => h) (by assumption) (by rfl) (fun w hSw => ?_) ?_; rotate_left; (focus (first | (go_simp; done) | (go_simp; with_reducible rfl))); simp only [Act.put, List.setIfInBounds_toArray, List.set_cons_zero, List.set_cons_succ]
        refine tk (i := 10) (oi := ⟨some 93, _, _, _, _, _⟩) (v := ?_) rfl (by kernel_rfl) (fun _ _ _ h => h) (by assumption) (by rfl) (fun w hSw => ?_) ?_; rotate_left; (focus (first | (go_simp; done) | (go_simp; with_reducible rfl))); simp only [Act.put, List.setIfInBounds_toArray, List.set_cons_zero, List.set_cons_succ]
        refine tk (i := 11) (oi := ⟨some 94, _, _, _, _, _⟩) (v := ?_) rfl (by kernel_rfl) (fun _ _ _ h => h) (by assumption) (by rfl) (fun w hSw => ?_) ?_; rotate_left; (focus (first | (go_simp; done) | (go_simp; with_reducible rfl))); simp only [Act.put, List.setIfInBounds_toArray, List.set_cons_zero, List.set_cons_succ]
        refine tk (i := 12) (oi := ⟨some 95, _, _, _, _, _⟩) (v := ?_) rfl (by kernel_rfl) (fun _ _ _ h => h) (by assumption) (by rfl) (fun w hSw => ?_) ?_; rotate_left; (focus (first | (go_simp; done) | (go_simp; with_reducible rfl))); simp only [Act.put, List.setIfInBounds_toArray, List.set_cons_zero, List.set_cons_succ]
        refine tk (i := 13) (oi := ⟨some 96, _, _, _, _, _⟩) (v := ?_) rfl (by kernel_rfl) (fun _ _ _ h => h) (by assumption) (by rfl) (fun w hSw => ?_) ?_; rotate_left; (focus (first | (go_simp; done) | (go_simp; with_reducible rfl))); simp only [Act.put, List.setIfInBounds_toArray, List.set_cons_zero, List.set_cons_succ]
        refine tk (i := 14) (oi := ⟨some 97, _, _, _, _, _⟩) (v := ?_) rfl (by kernel_rfl) (fun _ _ _ h => h) (by assumption) (by rfl) (fun w hSw => ?_) ?_; rotate_left; (focus (first | (go_simp; done) | (go_simp; with_reducible rfl))); simp only [Act.put, List.setIfInBounds_toArray, List.set_cons_zero, List.set_cons_succ]
        refine tk (i := 15) (oi := ⟨some 98, _, _, _, _, _⟩) (v := ?_) rfl (by kernel_rfl) (fun _ _ _ h => h) (by assumption) (by rfl) (fun w hSw => ?_) ?_; rotate_left; (focus (first | (go_simp; done) | (go_simp; with_reducible rfl))); simp only [Act.put, List.setIfInBounds_toArray, List.set_cons_zero, List.set_cons_succ]
        refine tk (i := 16) (oi := ⟨some 99, _, _, _, _, _⟩) (v := ?_) rfl (by kernel_rfl) (fun _ _ _ h => h) (by assumption) (by rfl) (fun w hSw => ?_) ?_; rotate_left; (focus (first | (go_simp; done) | (go_simp; with_reducible rfl))); simp only [Act.put, List.setIfInBounds_toArray, List.set_cons_zero, List.set_cons_succ]
        refine tk (i := 17) (oi := ⟨some 100, _, _, _, _, _⟩) (v := ?_) rfl (by kernel_rfl) (fun _ _ _ h => h) (by assumption) (by rfl) (fun w hSw => ?_) ?_; rotate_left; (focus (first | (go_simp; done) | (go_simp; with_reducible rfl))); simp only [Act.put, List.setIfInBounds_toArray, List.set_cons_zero, List.set_cons_succ]
        refine tk (i := 18) (oi := ⟨some 101, _, _, _, _, _⟩) (v := ?_) rfl (by kernel_rfl) (fun _ _ _ h => h) (by assumption) (by rfl) (fun w hSw => ?_) ?_; rotate_left; (focus (first | (go_simp; done) | (go_simp; with_reducible rfl))); simp only [Act.put, List.setIfInBounds_toArray, List.set_cons_zero, List.set_cons_succ]
        refine tk (i := 19) (oi := ⟨some 102, _, _, _, _, _⟩) (v := ?_) rfl (by kernel_rfl) (fun _ _ _ h => h) (by assumption) (by rfl) (fun w hSw => ?_) ?_; rotate_left; (focus (first | (go_simp; done) | (go_simp; with_reducible rfl))); simp only [Act.put, List.setIfInBounds_toArray, List.set_cons_zero, List.set_cons_succ]
        refine tk (i := 20) (oi := ⟨some 103, _, _, _, _, _⟩) (v := ?_) rfl (by kernel_rfl) (fun _ _ _ h => h) (by assumption) (by rfl) (fun w hSw => ?_) ?_; rotate_left; (focus (first | (go_simp; done) | (go_simp; with_reducible rfl))); simp only [Act.put, List.setIfInBounds_toArray, List.set_cons_zero, List.set_cons_succ]
        refine tk (i := 21) (oi := ⟨some 104, _, _, _, _, _⟩) (v := ?_) rfl (by kernel_rfl) (fun _ _ _ h => h) (by assumption) (by rfl) (fun w hSw => ?_) ?_; rotate_left; (focus (first | (go_simp; done) | (go_simp; with_reducible rfl))); simp only [Act.put, List.setIfInBounds_toArray, List.set_cons_zero, List.set_cons_succ]
        refine alone (i := 22) (oi := ⟨some 105, _, _, _, _, _⟩) rfl (by kernel_rfl) (by rfl) (fun K hK => ?_); go_simp
        refine (vsame_any _ _ _ L _ _ _ L _ (hs67.kept hS) (hsL7.kept hS) (by omega)).mono ?_
        rintro e w8 ⟨rfl, hk8⟩
        rw [decide_eq_true rfl]
        refine hK.out (fun wx => Keeps No w7 wx) _ _ (fun _ h => h) (hS.transNo hk8) ?_
        clear hK K hS
        intro hS
        refine tk (i := 23) (oi := ⟨some 106, _, _, _, _, _⟩) (v := ?_) rfl (by kernel_rfl) (fun _ _ _ h => h) (by assumption) (by rfl) (fun w hSw => ?_) ?_; rotate_left; (focus (first | (go_simp; done) | (go_simp; with_reducible rfl))); simp only [Act.put, List.setIfInBounds_toArray, List.set_cons_zero, List.set_cons_succ]
        refine tk (i := 24) (oi := ⟨some 107, _, _, _, _, _⟩) (v := ?_) rfl (by kernel_rfl) (fun _ _ _ h => h) (by assumption) (by rfl) (fun w hSw => ?_) ?_; rotate_left; (focus (first | (go_simp; done) | (go_simp; with_reducible rfl))); simp only [Act.put, List.setIfInBounds_toArray, List.set_cons_zero, List.set_cons_succ]
        refine tk (i := 25) (oi := ⟨some 108, _, _, _, _, _⟩) (v := ?_) rfl (by kernel_rfl) (fun _ _ _ h => h) (by assumption) (by rfl) (fun w hSw => ?_) ?_; rotate_left; (focus (first | (go_simp; done) | (go_simp; with_reducible rfl))); simp only [Act.put, List.setIfInBounds_toArray, List.set_cons_zero, List.set_cons_succ]
        refine tk (i := 26) (oi := ⟨some 109, _, _, _, _, _⟩) (v := ?_) rfl (by kernel_rfl) (fun _ _ _ h => h) (by assumption) (by rfl) (fun w hSw => ?_) ?_; rotate_left; (focus (first | (go_simp; done) | (go_simp; with_reducible rfl))); simp only [Act.put, List.setIfInBounds_toArray, List.set_cons_zero, List.set_cons_succ]
        refine tk (i := 28) (oi := ⟨some 111, _, _, _, _, _⟩) (v := ?_) rfl (by kernel_rfl) (fun _ _ _ h => h) (by assumption) (by rfl) (fun w hSw => ?_) ?_; rotate_left; (focus (first | (go_simp; done) | (go_simp; with_reducible rfl))); simp only [Act.put, List.setIfInBounds_toArray, List.set_cons_zero, List.set_cons_succ]
        refine alone (i := 27) (oi := ⟨some 110, _, _, _, _, _⟩) rfl (by kernel_rfl) (by rfl) (fun K hK => ?_); go_simp
        refine (hcodes _ ((hsL7.kept hS))).mono ?_
        rintro e w9 ⟨a9, c9, rfl, hs9, hk9⟩
        have hk79 := hS.transNo hk9
        have hsX9 := hsX7.kept hk79
        rw [HCD.out] at hsX9
        have hcl4 : (codesL k L).length ≤ 4 := by rw [← HCD.out, hc4]; exact Nat.le_refl _
        refine hK.out (fun wx => Keeps No w9 wx) _ _ (fun _ hx => hS.transNo (Keeps.transNo (hk9) hx)) (Keeps.refl _ _) ?_
        clear hK K hS
        intro hS
        refine alone (i := 29) (oi := ⟨some 112, _, _, _, _, _⟩) rfl (by kernel_rfl) (by rfl) (fun K hK => ?_); go_simp
        refine (rsame_any _ _ _ (codesL k L) _ _ _ (codesL k L) _ (hs9.kept hS) (hsX9.kept hS) (by omega) (by omega)).mono ?_
        rintro e w10 ⟨rfl, hk10⟩
        rw [decide_eq_true rfl]
        have hkz := hk79.transNo hk10
        refine hK.out (fun wx => Keeps No w9 wx) _ _ (fun _ h => h) (hS.transNo hk10) ?_
        clear hK K hS
        intro hS
        refine tk (i := 30) (oi := ⟨some 113, _, _, _, _, _⟩) (v := ?_) rfl (by kernel_rfl) (fun _ _ _ h => h) (by assumption) (by rfl) (fun w hSw => ?_) ?_; rotate_left; (focus (first | (go_simp; done) | (go_simp; with_reducible rfl))); simp only [Act.put, List.setIfInBounds_toArray, List.set_cons_zero, List.set_cons_succ]
        refine tk (i := 31) (oi := ⟨some 4, _, _, _, _, _⟩) (v := ?_) rfl (by kernel_rfl) (fun _ _ _ h => h) (by assumption) (by rfl) (fun w hSw => ?_) ?_; rotate_left; (focus (first | (go_simp; done) | (go_simp; with_reducible rfl))); simp only [Act.put, List.setIfInBounds_toArray, List.set_cons_zero, List.set_cons_succ]
        refine wpAnyH_done (by kernel_rfl) ?_ _
        go_wp2_with fail
        go_ret
        exact ⟨rfl, ((((hk0r.transNo hkA).transNo hkx).transNo hk6).transNo hk67).transNo hkz⟩
theorem columnPuts_walk (k : Int) (a : Option Addr) (n c : Nat) (l : List VR) (w : World) (hk : (Lit.int .i64 k).wf = true) (hs : SlK w 4 a n c (l.map vrCells)) (hn : n * 40 ≤ 140737488351232) :
    Calls Try.prog 7 #[.int .i64 k, .slice a n c] w fun e w' => e = .returned (.bool true) ∧ Keeps No w w' := by
  rw [vr_map] at hs
  exact columnPuts_any k a n c _ w hs (vr_all l) (by omega)
end Go.Proofs.Ythbipcjgpocpaaa
