/- The document's dict: Get. -/
import Derived.Test.YthbipcjgpocpaaaGreatRefDict
import Derived.Test.YthbipcjgpocpaaaGreatDictG
namespace Go.Proofs.YthbipcjgpocpaaaGreat
open Go.RowKit
set_option linter.unusedSimpArgs false
set_option linter.unusedVariables false
set_option maxRecDepth 100000

set_option maxHeartbeats 4000000 in
theorem rdget13_any (a : Option Addr) (m c : Nat) (b : List UInt8) (n : Int) (w : World) (hs : Sl w a m c (b.map byteV)) (hm : m ≤ 100000) (hn : (Lit.int .i64 n).wf = true) :
    Calls Tryz.prog 38 #[.slice a m c, .int .i64 n] w (DGetPost (dgetL b n) w) := by
  have hw := wf_i64_iff hn
  have hlen : b.length = m := by simpa using hs.len
  have Hlen := Lib.hid hlen
  clear hlen
  go_enter Tryz.func38, Tryz.ntmps38
  by_cases h0 : n < 0
  · go_wp2_with fail
    go_ret2
    exact DGetPost.no (if_pos (.inl h0)) (Keeps.refl _ _)
  by_cases h1 : 256 < n
  · go_wp2_with fail
    go_ret2
    exact DGetPost.no (if_pos (.inr h1)) (Keeps.refl _ _)
  obtain ⟨N, rfl⟩ : ∃ N : Nat, n = (N : Int) := ⟨n.toNat, by omega⟩
  obtain ⟨R, hR⟩ : ∃ R, dgetL b (N : Int) = R := ⟨_, rfl⟩
  rw [hR]
  have HR := Lib.hid hR
  have hN : N ≤ 256 := by omega
  clear hn hw h0 hR h1
  go_wp2_with fail
  refine (read_any a m c b _ hs (by omega)).mono ?_
  rintro e w1 ⟨rfl, rfl⟩
  cases hr0 : natGo 0 0 b with
  | none =>
    have hno : R = none := by rw [← HR.out]; unfold dgetL; rw [if_neg (by omega), hr0]
    have Hno := Lib.hid hno
    rw [readP_none hr0]
    clear hno hr0
    simp only
    go_wp2_with fail
    go_ret2
    exact DGetPost.no Hno.out (Keeps.refl _ _)
  | some x0 =>
    obtain ⟨C, r0⟩ := x0
    obtain ⟨e1, e2, e3, e4⟩ := readP_some hr0
    have hC64 := (natGo_lt64 hr0).1
    obtain ⟨k0, hk0⟩ : ∃ k0, k0 = (readP b).2 := ⟨_, rfl⟩
    rw [e1]
    rw [← hk0] at e2 e3 e4 ⊢
    have hne : ((k0 : Int) == 0) = false := by simp; omega
    have hk0m : k0 ≤ m := by rw [← Hlen.out]; exact e3
    by_cases hC : 256 < C
    · have hno : R = none := by rw [← HR.out]; unfold dgetL; rw [if_neg (by omega), hr0]; simp only; rw [if_pos hC]
      have Hno := Lib.hid hno
      have hC' : (256 : Int) < (C : Int) := by omega
      clear hno hr0 e1 e4 hk0 e3
      go_wp2_with fail
      go_ret2
      exact DGetPost.no Hno.out (Keeps.refl _ _)
    have hC' : ¬ (256 : Int) < (C : Int) := by omega
    obtain ⟨G, hG⟩ : ∃ G, G = rdTexts C r0 := ⟨_, rfl⟩
    have hGR : (G = none → R = none) ∧ (∀ W rest, G = some (W, rest) → R = dgetW b N W rest) := by
      have h2 : R = dgetC b N C r0 := by rw [← HR.out]; unfold dgetL; rw [if_neg (by omega), hr0]; simp only; rw [if_neg hC]
      unfold dgetC at h2
      rw [← hG] at h2
      refine ⟨fun h => ?_, fun W rest h => ?_⟩
      · rw [h] at h2; exact h2
      · rw [h] at h2; exact h2
    have HGR := Lib.hid hGR
    have hst : G = (rdTexts (C - 0) (b.drop k0)).map fun p => ([] ++ p.1, p.2) := by
      rw [hG, e4, Nat.sub_zero]
      simp only [List.nil_append]
      cases rdTexts C (b.drop k0) <;> rfl
    have Hst := Lib.hid hst
    clear hst hGR hG hr0 e1 e4 hk0 e3
    go_wp2_with fail
    go_loopg [8, 7] C (fun q v8 v7 wx => ∃ (t U : Nat) (W : List Tx), v7 = .int .i64 (U : Int) ∧ q = C - t ∧ t ≤ C ∧ U ≤ m ∧ Hid (W.length = t) ∧ Hid (∀ x ∈ W, x.length ≤ m) ∧ Hid (G = (rdTexts (C - t) (b.drop U)).map fun p => (W ++ p.1, p.2)) ∧
      wx.ownsRow w.heap.size 9 1 v8 t (W.map txV) ∧ Keeps No w wx)
    case atStart => exact ⟨0, k0, [], rfl, rfl, Nat.zero_le _, hk0m, Lib.hid rfl, Lib.hid (by simp), Hst, World.ownsRow_nil _ _ _ _, Keeps.refl _ _⟩
    case round =>
      clear hne e2 hk0m Hst
      obtain ⟨t, U, W, rfl, hq, htC, hUm, HWl, HWm, HG, hownW, hkx⟩ := hrel
      have Hq := Lib.hid hq
      clear hq
      have hownW' := hownW
      obtain ⟨aW, cW, rfl, hsW, -⟩ := Sl.ofOwn hownW'
      clear hownW'
      obtain ⟨a5, hf1, hf2, hs5, -⟩ := hs.from_ (P := Tryz.prog) Tryz.underlying22 (by kernel_rfl) (k := U) hUm .i64 (U : Int) rfl
      rw [← List.map_drop] at hs5
      have hUi : (U : Int) ≤ (m : Int) := by omega
      by_cases hlt : t < C
      case pos =>
        have hl1 : (t : Int) < (C : Int) := by omega
        have hcall := read_any a5 (m - U) (c - U) (b.drop U) wr (hs5.kept hkx) (by omega)
        go_wp2_with fail
        refine hcall.mono ?_
        clear hcall
        rintro e w1 ⟨rfl, rfl⟩
        cases hr0 : natGo 0 0 (b.drop U) with
        | none =>
          have hno : G = none := by rw [HG.out, show C - t = (C - (t + 1)) + 1 by omega]; unfold rdTexts; rw [hr0]; rfl
          have Hno := Lib.hid hno
          rw [readP_none hr0]
          clear hno hr0
          simp only
          go_wp2_with fail
          go_ret2
          exact DGetPost.no (HGR.out.1 Hno.out) hkx
        | some x0 =>
          obtain ⟨v, r⟩ := x0
          obtain ⟨e1, e2, e3, e4⟩ := readP_some hr0
          have hv64 := (natGo_lt64 hr0).1
          obtain ⟨k, hk⟩ : ∃ k, k = (readP (b.drop U)).2 := ⟨_, rfl⟩
          rw [e1]
          rw [← hk] at e2 e3 e4 ⊢
          have hne : ((k : Int) == 0) = false := by simp; omega
          have hkU : U + k ≤ m := by rw [List.length_drop, Hlen.out] at e3; omega
          rw [List.drop_drop] at e4
          have hrl : r.length = m - (U + k) := by rw [e4, List.length_drop, Hlen.out]
          have hm64 : IntKind.u64.wrap ((m : Int) - (U : Int) - (k : Int)) = ((m - (U + k) : Nat) : Int) := by
            rw [show (m : Int) - (U : Int) - (k : Int) = ((m - (U + k) : Nat) : Int) by omega]
            rw [IntKind.wrap_u64]; omega
          by_cases hv : v ≤ m - (U + k)
          case neg =>
            have hno : G = none := by rw [HG.out, show C - t = (C - (t + 1)) + 1 by omega]; unfold rdTexts; rw [hr0]; simp only; rw [if_neg (by omega)]; rfl
            have Hno := Lib.hid hno
            have hv' : ((m - (U + k) : Nat) : Int) < (v : Int) := by omega
            clear hno hr0 e1 e4 hk e3 hrl
            go_wp2_with fail
            go_ret2
            exact DGetPost.no (HGR.out.1 Hno.out) hkx
          have hv' : ¬ ((m - (U + k) : Nat) : Int) < (v : Int) := by omega
          obtain ⟨x, hx⟩ : ∃ x, x = r.take v := ⟨_, rfl⟩
          have hxl : x.length = v := by rw [hx, List.length_take]; omega
          obtain ⟨aM, hm1, hm2, hsM⟩ := hs.mid (P := Tryz.prog) Tryz.underlying22 (by kernel_rfl) (lo := U + k) (hi := U + k + v) (by omega) (by omega) .i64 .i64 ((U : Int) + (k : Int)) ((U : Int) + (k : Int) + (v : Int)) (by omega) (by omega)
          rw [show U + k + v - (U + k) = v by omega] at hm1 hm2 hsM
          rw [← List.map_drop, ← List.map_take, ← e4, ← hx] at hsM
          have hcv := (hsM.kept hkx).str (P := Tryz.prog) 22 9 _ Tryz.underlying22 Tryz.underlying5 Tryz.underlying9
          have hG2 : G = (rdTexts (C - (t + 1)) (b.drop (U + k + v))).map fun p => ((W ++ [x]) ++ p.1, p.2) := by
            rw [HG.out, show C - t = (C - (t + 1)) + 1 by omega]
            conv => lhs; unfold rdTexts
            rw [hr0]
            simp only
            rw [if_pos (by omega), e4, List.drop_drop, ← e4, ← hx]
            cases rdTexts (C - (t + 1)) (b.drop (U + k + v)) with
            | none => rfl
            | some q => simp
          have HG2 := Lib.hid hG2
          have Hxl := Lib.hid hxl
          have hkA : Keeps No wr (wr.alloc (.cells #[.string ⟨x.toArray⟩] 9)) := (Keeps.refl No _).alloc _
          have hzr := hkx.size
          clear hG2 hxl hx hr0 e1 e4 hk e3 hrl hsM
          go_wp2_with (at_builtin; go_loud (refine app_own rfl (.tmp 58) (.tmp 71) 64 rfl w.heap.size 9 (.string ByteArray.empty) 16 Tryz.underlying64 str_infoQ rfl (by decide) _ t (W.map txV) rfl (hkA.own hownW (fun _ _ => not_No _)) _ 1 1 [.string ⟨x.toArray⟩] rfl (Sl.one _ _ _) ?h1 ?hb ?hB ?_))
          case h1 => first | rfl | (intro y hy; simp at hy; subst hy; rfl)
          case hb => omega
          case hB => first | omega | (simp; omega)
          intro v7 w7 hown7 hg7
          have hk7 : Keeps No w w7 := (hkx.transNo hkA).grown hg7 (fun i hi hlt2 => by have := (hownW.lt i hi).1; omega)
          have e1 : W.map txV ++ [.string ⟨x.toArray⟩] = (W ++ [x]).map txV := by simp [txV]
          rw [e1] at hown7
          clear e1 hg7 hkA hownW hkx hsW hcv hm1 hm2 hf1 hf2 hs5
          go_wp2_with fail
          go_roundg (C - (t + 1))
          case measure => have := Hq.out; omega
          case rel =>
            refine ⟨t + 1, U + k + v, W ++ [x], by go_num, rfl, by omega, by omega, Lib.hid (by simp [HWl.out]), Lib.hid (fun y hy => ?_), HG2, hown7, hk7⟩
            rcases List.mem_append.1 hy with hy | hy
            · exact HWm.out y hy
            · simp at hy; subst hy; have := Hxl.out; omega
      obtain rfl : t = C := by omega
      have hGf : G = some (W, b.drop U) := by rw [HG.out, Nat.sub_self]; simp [rdTexts]
      have HRd := Lib.hid (HGR.out.2 _ _ hGf)
      have hWl := HWl.out
      subst hWl
      have hzx := hkx.size
      clear HG HGR hGf Hq htC hlt HWl hownW
      have hk0 := hkx
      clear hkx
      generalize wr = wa at hk0 hsW hzx ⊢
      go_wp2_with fail
      have hcall := rbget_any a5 (m - U) (c - U) (b.drop U) (N : Int) _ (hs5.kept hk0) (by omega) (wf_int (by omega))
      refine hcall.mono ?_
      clear hcall
      intro e w4 hB
      have hBq : ∃ (v : Value) (aA : Option Addr) (nA cA : Nat) (A : List Int) (o2 : Bool), e = .returned (.tuple #[v, .bool o2]) ∧ v = .slice aA nA cA ∧ Sl w4 aA nA cA (A.map intV) ∧ Keeps No wa w4 ∧ Hid (A.length = nA) ∧ nA ≤ 256 ∧ Hid (o2 = true → bitsGet (b.drop U) (N : Int) = some A) ∧ Hid (o2 = false → bitsGet (b.drop U) (N : Int) = none ∧ A = []) := by
        cases hbg : bitsGet (b.drop U) (N : Int) with
        | none =>
          rw [hbg] at hB
          obtain ⟨rfl, hk⟩ := hB
          exact ⟨_, none, 0, 0, [], false, rfl, rfl, Sl.none _, hk, Lib.hid rfl, by omega, Lib.hid (fun h => by simp at h), Lib.hid (fun _ => ⟨rfl, rfl⟩)⟩
        | some A =>
          rw [hbg] at hB
          obtain ⟨v, rfl, hown, hk⟩ := hB
          obtain ⟨aA, cA, rfl, hsA, -⟩ := Sl.ofOwn hown
          have := bitsGet_len hbg
          exact ⟨_, aA, A.length, cA, A, true, rfl, rfl, hsA, hk, Lib.hid rfl, by omega, Lib.hid (fun _ => rfl), Lib.hid (fun h => by simp at h)⟩
      clear hB
      obtain ⟨v4, aA, nA, cA, A, o2, rfl, rfl, hsA, hk4, HAl, hnA, Ho1, Ho0⟩ := hBq
      have hk04 := hk0.transNo hk4
      have hsW4 := hsW.kept hk4
      have hz04 := hk04.size
      clear hsW hk4 hk0 hf1 hf2 hs5
      go_wp2_with fail
      go_loopg [13, 89] nA (fun q v13 v89 wx => ∃ (j : Nat), v89 = .int .i64 (j : Int) ∧ q = nA - j ∧ j ≤ nA ∧ Hid (inW W (A.take j)) ∧ wx.ownsRow w4.heap.size 9 1 v13 j ((outW W (A.take j)).map txV) ∧ Keeps No w4 wx)
      case atStart => exact ⟨0, rfl, rfl, Nat.zero_le _, Lib.hid (fun i hi => by simp at hi), World.ownsRow_nil _ _ _ _, Keeps.refl _ _⟩
      case round =>
        obtain ⟨j, rfl, hq, hj, Hin, hown, hkr⟩ := hrel
        have Hq := Lib.hid hq
        clear hq
        have hown' := hown
        obtain ⟨ao, co, rfl, hso, -⟩ := Sl.ofOwn hown'
        clear hown'
        by_cases hlt : j < nA
        · have hjA : j < A.length := by rw [HAl.out]; exact hlt
          have hix := hsA.ix (P := Tryz.prog) Tryz.underlying63 (by kernel_rfl) hlt .i64
          have hcm := (hsA.kept hkr).at_ hlt
          obtain ⟨x, hx⟩ : ∃ x, x = A[j] := ⟨_, rfl⟩
          have hbv : (A.map intV).getD j undef = .int .i64 x := by rw [hx]; simp [hjA, intV]
          rw [hbv] at hcm
          have hst : A.take (j + 1) = A.take j ++ [x] := by rw [List.take_succ_eq_append_getElem hjA, ← hx]
          have hbad : ¬ (0 ≤ x ∧ x < (W.length : Int)) → R = none := fun h => by
            have ho : o2 = true := by
              cases o2
              · have := (Ho0.out rfl).2
                subst this
                simp at hjA
              · rfl
            rw [HRd.out]
            unfold dgetW
            rw [Ho1.out ho]
            simp only
            rw [if_neg]
            intro h2
            exact h (h2 x (by rw [hx]; exact List.getElem_mem hjA))
          have Hbad := Lib.hid hbad
          have Hst := Lib.hid hst
          clear hx hbv hst hbad
          by_cases hx0 : x < 0
          · go_wp2_with fail
            go_ret2
            exact DGetPost.no (Hbad.out (by omega)) (hk04.transNo hkr)
          by_cases hxW : (W.length : Int) ≤ x
          · go_wp2_with fail
            go_ret2
            exact DGetPost.no (Hbad.out (by omega)) (hk04.transNo hkr)
          obtain ⟨I, rfl⟩ : ∃ I : Nat, x = (I : Int) := ⟨x.toNat, by omega⟩
          have hIW : I < W.length := by omega
          have hixW := hsW4.ix (P := Tryz.prog) Tryz.underlying64 (by kernel_rfl) hIW .i64
          have hcmW := (hsW4.kept hkr).at_ hIW
          obtain ⟨u, hu⟩ : ∃ u, u = W[I] := ⟨_, rfl⟩
          have hbu : (W.map txV).getD I undef = .string ⟨u.toArray⟩ := by rw [hu]; simp [hIW, txV]
          rw [hbu] at hcmW
          have hou : outW W (A.take (j + 1)) = outW W (A.take j) ++ [u] := by
            rw [Hst.out, hu]; simp [outW, hIW]
          have hin : inW W (A.take (j + 1)) := by
            rw [Hst.out]
            intro i hi
            rcases List.mem_append.1 hi with hi | hi
            · exact Hin.out i hi
            · simp at hi; subst hi; omega
          have Hou := Lib.hid hou
          have Hin' := Lib.hid hin
          have hkA : Keeps No wr (wr.alloc (.cells #[.string ⟨u.toArray⟩] 9)) := (Keeps.refl No _).alloc _
          have hzr := hkr.size
          clear hu hbu hou hin
          go_wp2_with (at_builtin; go_loud (refine app_own rfl (.tmp 101) (.tmp 106) 64 rfl w4.heap.size 9 (.string ByteArray.empty) 16 Tryz.underlying64 str_infoQ rfl (by decide) _ j ((outW W (A.take j)).map txV) rfl (hkA.own hown (fun _ _ => not_No _)) _ 1 1 [.string ⟨u.toArray⟩] rfl (Sl.one _ _ _) ?h1 ?hb ?hB ?_))
          case h1 => first | rfl | (intro y hy; simp at hy; subst hy; rfl)
          case hb => omega
          case hB => first | omega | (simp; omega)
          intro v7 w7 hown7 hg7
          have hk7 : Keeps No w4 w7 := (hkr.transNo hkA).grown hg7 (fun i hi hlt2 => by have := (hown.lt i hi).1; omega)
          have e1 : (outW W (A.take j)).map txV ++ [.string ⟨u.toArray⟩] = (outW W (A.take (j + 1))).map txV := by rw [Hou.out]; simp [txV]
          rw [e1] at hown7
          clear e1 hg7 hkA hown hkr hso
          go_wp2_with fail
          go_roundg (nA - (j + 1))
          case measure => have := Hq.out; omega
          case rel => exact ⟨j + 1, by go_num, rfl, by omega, Hin', hown7, hk7⟩
        · obtain rfl : j = nA := by omega
          rw [show A.take j = A from by rw [← HAl.out, List.take_length]] at Hin hown hso
          have hk0r := hk04.transNo hkr
          have hsr := hs.kept hk0r
          cases o2 with
          | false =>
            have hRn : R = none := by
              rw [HRd.out]
              unfold dgetW
              rw [(show bitsGet (b.drop U) (N : Int) = none ∧ A = [] by first | exact Ho0.out rfl | exact Ho0.out trivial).1]
            have HRn := Lib.hid hRn
            clear hRn
            go_wp2_with fail
            refine wp_region_held_drew (S := fun wx => True) (by kernel_rfl) (trivial) (fun hS => ?_)
            refine tk (i := 0) (oi := ⟨some 109, _, _, _, _, _⟩) (v := ?_) rfl (by kernel_rfl) (fun _ _ _ h => h) (by assumption) (by rfl) (fun w hSw => ?_) ?_; rotate_left; (focus (first | (go_simp; done) | (go_simp; with_reducible rfl))); simp only [Act.put, List.setIfInBounds_toArray, List.set_cons_zero, List.set_cons_succ]
            refine tk (i := 1) (oi := ⟨some 110, _, _, _, _, _⟩) (v := ?_) rfl (by kernel_rfl) (fun _ _ _ h => h) (by assumption) (by rfl) (fun w hSw => ?_) ?_; rotate_left; (focus (first | (go_simp; done) | (go_simp; with_reducible rfl))); simp only [Act.put, List.setIfInBounds_toArray, List.set_cons_zero, List.set_cons_succ]
            refine tk (i := 2) (oi := ⟨some 111, _, _, _, _, _⟩) (v := ?_) rfl (by kernel_rfl) (fun _ _ _ h => h) (by assumption) (by rfl) (fun w hSw => ?_) ?_; rotate_left; (focus (first | (go_simp; done) | (go_simp; with_reducible rfl))); simp only [Act.put, List.setIfInBounds_toArray, List.set_cons_zero, List.set_cons_succ]
            refine tkNot (i := 3) (oi := ⟨some 112, _, _, _, _, _⟩) rfl (by kernel_rfl) (fun _ _ _ h => h) (by assumption) (by rfl) ?_; simp only [Act.put, List.setIfInBounds_toArray, List.set_cons_zero, List.set_cons_succ]
            refine tkNot (i := 4) (oi := ⟨some 113, _, _, _, _, _⟩) rfl (by kernel_rfl) (fun _ _ _ h => h) (by assumption) (by rfl) ?_; simp only [Act.put, List.setIfInBounds_toArray, List.set_cons_zero, List.set_cons_succ]
            refine tkNot (i := 5) (oi := ⟨some 114, _, _, _, _, _⟩) rfl (by kernel_rfl) (fun _ _ _ h => h) (by assumption) (by rfl) ?_; simp only [Act.put, List.setIfInBounds_toArray, List.set_cons_zero, List.set_cons_succ]
            refine tkNot (i := 6) (oi := ⟨some 115, _, _, _, _, _⟩) rfl (by kernel_rfl) (fun _ _ _ h => h) (by assumption) (by rfl) ?_; simp only [Act.put, List.setIfInBounds_toArray, List.set_cons_zero, List.set_cons_succ]
            refine tkNot (i := 7) (oi := ⟨some 116, _, _, _, _, _⟩) rfl (by kernel_rfl) (fun _ _ _ h => h) (by assumption) (by rfl) ?_; simp only [Act.put, List.setIfInBounds_toArray, List.set_cons_zero, List.set_cons_succ]
            refine tkNot (i := 8) (oi := ⟨some 117, _, _, _, _, _⟩) rfl (by kernel_rfl) (fun _ _ _ h => h) (by assumption) (by rfl) ?_; simp only [Act.put, List.setIfInBounds_toArray, List.set_cons_zero, List.set_cons_succ]
            refine tk (i := 9) (oi := ⟨some 118, _, _, _, _, _⟩) (v := ?_) rfl (by kernel_rfl) (fun _ _ _ h => h) (by assumption) (by rfl) (fun w hSw => ?_) ?_; rotate_left; (focus (first | (go_simp; done) | (go_simp; with_reducible rfl))); simp only [Act.put, List.setIfInBounds_toArray, List.set_cons_zero, List.set_cons_succ]
            refine wpAnyH_done (by kernel_rfl) ?_ _
            go_wp2_with fail
            go_ret2
            exact DGetPost.no HRn.out hk0r.drew
          | true =>
            have hRc : R = dchk b (outW W A) := by
              rw [HRd.out]
              unfold dgetW
              rw [show bitsGet (b.drop U) (N : Int) = some A by first | exact Ho1.out rfl | exact Ho1.out trivial]
              simp only
              rw [if_pos Hin.out]
            have HRc := Lib.hid hRc
            have hoL : (outW W A).length = j := by simp [outW, HAl.out]
            have HoL := Lib.hid hoL
            have hoT : ∀ x ∈ outW W A, x.length ≤ 100000 := fun x hx => by
              obtain ⟨i, hi, rfl⟩ := List.mem_map.1 hx
              obtain ⟨h1, h2⟩ := Hin.out i hi
              have hI : i.toNat < W.length := by omega
              have := HWm.out W[i.toNat] (List.getElem_mem hI)
              simp [hI]; omega
            generalize outW W A = O at hown hso HRc HoL hoT
            have HoT := Lib.hid hoT
            clear hRc hoL hoT hsA hsW4
            by_cases hE : dputL O = b
            · have hne : (dputL O == b) = true := by simp [hE]
              have HE := Lib.hid hE
              clear hE
              go_wp2_with fail
              refine wp_region_held_drew (S := fun wx => (convert 22 9 (.slice a m c)).run Tryz.prog wx = .ok (.string ⟨b.toArray⟩) wx) (by kernel_rfl) ((hsr.kept (Keeps.refl No wr).drew).str _ _ _ Tryz.underlying22 Tryz.underlying5 Tryz.underlying9) (fun hS => ?_)
              refine tk (i := 0) (oi := ⟨some 109, _, _, _, _, _⟩) (v := ?_) rfl (by kernel_rfl) (fun _ _ _ h => h) (by assumption) (by rfl) (fun w hSw => ?_) ?_; rotate_left; (focus (first | (go_simp; done) | (go_simp; with_reducible rfl))); simp only [Act.put, List.setIfInBounds_toArray, List.set_cons_zero, List.set_cons_succ]
              refine tk (i := 1) (oi := ⟨some 110, _, _, _, _, _⟩) (v := ?_) rfl (by kernel_rfl) (fun _ _ _ h => h) (by assumption) (by rfl) (fun w hSw => ?_) ?_; rotate_left; (focus (first | (go_simp; done) | (go_simp; with_reducible rfl))); simp only [Act.put, List.setIfInBounds_toArray, List.set_cons_zero, List.set_cons_succ]
              refine tk (i := 2) (oi := ⟨some 111, _, _, _, _, _⟩) (v := ?_) rfl (by kernel_rfl) (fun _ _ _ h => h) (by assumption) (by rfl) (fun w hSw => ?_) ?_; rotate_left; (focus (first | (go_simp; done) | (go_simp; with_reducible rfl))); simp only [Act.put, List.setIfInBounds_toArray, List.set_cons_zero, List.set_cons_succ]
              refine tk (i := 3) (oi := ⟨some 112, _, _, _, _, _⟩) (v := ?_) rfl (by kernel_rfl) (fun _ _ _ h => h) (by assumption) (by rfl) (fun w hSw => ?_) ?_; rotate_left; (focus (first | (go_simp; done) | (go_simp; with_reducible rfl))); simp only [Act.put, List.setIfInBounds_toArray, List.set_cons_zero, List.set_cons_succ]
              refine tk (i := 6) (oi := ⟨some 115, _, _, _, _, _⟩) (v := ?_) rfl (by kernel_rfl) (fun _ _ _ h => h) (by assumption) (by rfl) (fun w hSw => ?_) ?_; rotate_left; (focus (first | (go_simp; done) | (go_simp; with_reducible rfl))); simp only [Act.put, List.setIfInBounds_toArray, List.set_cons_zero, List.set_cons_succ]
              refine tk (i := 7) (oi := ⟨some 116, _, _, _, _, _⟩) (v := ?_) rfl (by kernel_rfl) (fun _ _ _ h => h) (by assumption) (by rfl) (fun w hSw => ?_) ?_; rotate_left; (focus (first | (go_simp; done) | (go_simp; with_reducible rfl))); simp only [Act.put, List.setIfInBounds_toArray, List.set_cons_zero, List.set_cons_succ]
              refine alone (i := 4) (oi := ⟨some 113, _, _, _, _, _⟩) rfl (by kernel_rfl) (by rfl) (fun K hK => ?_); go_simp
              refine (rput13_any ao j co O _ (hso.kept (Keeps.refl No wr).drew) (by omega) HoT.out).mono ?_
              rintro e w5 ⟨v5, rfl, hown5, hk5, -⟩
              obtain ⟨a5, c5, rfl, hs5, -⟩ := Sl.ofOwn hown5
              have hc5 := hs5.str (P := Tryz.prog) 22 9 _ Tryz.underlying22 Tryz.underlying5 Tryz.underlying9
              refine hK.out (fun wx => (convert 22 9 (.slice a m c)).run Tryz.prog wx = .ok (.string ⟨b.toArray⟩) wx) _ _ (fun _ h => h) ((hsr.kept ((Keeps.refl No wr).drew.transNo hk5)).str _ _ _ Tryz.underlying22 Tryz.underlying5 Tryz.underlying9) ?_
              clear hK K hS
              intro hS
              refine alone (i := 5) (oi := ⟨some 114, _, _, _, _, _⟩) rfl (by kernel_rfl) (by rfl) (fun K hK => ?_); go_simp
              refine hK.out (fun wx => (convert 22 9 (.slice a m c)).run Tryz.prog wx = .ok (.string ⟨b.toArray⟩) wx) _ _ (fun _ h => h) (hS) ?_
              clear hK K hS
              intro hS
              refine tk (i := 8) (oi := ⟨some 117, _, _, _, _, _⟩) (v := ?_) rfl (by kernel_rfl) (fun _ _ _ h => h) (by assumption) (by rfl) (fun w hSw => ?_) ?_; rotate_left; (focus (first | (go_simp; done) | (go_simp; with_reducible rfl))); simp only [Act.put, List.setIfInBounds_toArray, List.set_cons_zero, List.set_cons_succ]
              refine tk (i := 9) (oi := ⟨some 118, _, _, _, _, _⟩) (v := ?_) rfl (by kernel_rfl) (fun _ _ _ h => h) (by assumption) (by rfl) (fun w hSw => ?_) ?_; rotate_left; (focus (first | (go_simp; done) | (go_simp; with_reducible rfl))); simp only [Act.put, List.setIfInBounds_toArray, List.set_cons_zero, List.set_cons_succ]
              refine wpAnyH_done (by kernel_rfl) ?_ _
              clear hS hc5
              go_wp2_with fail
              go_ret2
              refine DGetPost.ok (l := O) (by rw [HRc.out]; unfold dchk; rw [if_pos HE.out]) ?_ (hk0r.drew.transNo hk5)
              rw [HoL.out]
              exact own_le (hk5.own hown.drew (fun _ _ => not_No _)) hz04
            · have hne : (dputL O == b) = false := by simp [hE]
              have HE := Lib.hid hE
              clear hE
              go_wp2_with fail
              refine wp_region_held_drew (S := fun wx => (convert 22 9 (.slice a m c)).run Tryz.prog wx = .ok (.string ⟨b.toArray⟩) wx) (by kernel_rfl) ((hsr.kept (Keeps.refl No wr).drew).str _ _ _ Tryz.underlying22 Tryz.underlying5 Tryz.underlying9) (fun hS => ?_)
              refine tk (i := 0) (oi := ⟨some 109, _, _, _, _, _⟩) (v := ?_) rfl (by kernel_rfl) (fun _ _ _ h => h) (by assumption) (by rfl) (fun w hSw => ?_) ?_; rotate_left; (focus (first | (go_simp; done) | (go_simp; with_reducible rfl))); simp only [Act.put, List.setIfInBounds_toArray, List.set_cons_zero, List.set_cons_succ]
              refine tk (i := 1) (oi := ⟨some 110, _, _, _, _, _⟩) (v := ?_) rfl (by kernel_rfl) (fun _ _ _ h => h) (by assumption) (by rfl) (fun w hSw => ?_) ?_; rotate_left; (focus (first | (go_simp; done) | (go_simp; with_reducible rfl))); simp only [Act.put, List.setIfInBounds_toArray, List.set_cons_zero, List.set_cons_succ]
              refine tk (i := 2) (oi := ⟨some 111, _, _, _, _, _⟩) (v := ?_) rfl (by kernel_rfl) (fun _ _ _ h => h) (by assumption) (by rfl) (fun w hSw => ?_) ?_; rotate_left; (focus (first | (go_simp; done) | (go_simp; with_reducible rfl))); simp only [Act.put, List.setIfInBounds_toArray, List.set_cons_zero, List.set_cons_succ]
              refine tk (i := 3) (oi := ⟨some 112, _, _, _, _, _⟩) (v := ?_) rfl (by kernel_rfl) (fun _ _ _ h => h) (by assumption) (by rfl) (fun w hSw => ?_) ?_; rotate_left; (focus (first | (go_simp; done) | (go_simp; with_reducible rfl))); simp only [Act.put, List.setIfInBounds_toArray, List.set_cons_zero, List.set_cons_succ]
              refine tk (i := 6) (oi := ⟨some 115, _, _, _, _, _⟩) (v := ?_) rfl (by kernel_rfl) (fun _ _ _ h => h) (by assumption) (by rfl) (fun w hSw => ?_) ?_; rotate_left; (focus (first | (go_simp; done) | (go_simp; with_reducible rfl))); simp only [Act.put, List.setIfInBounds_toArray, List.set_cons_zero, List.set_cons_succ]
              refine tk (i := 7) (oi := ⟨some 116, _, _, _, _, _⟩) (v := ?_) rfl (by kernel_rfl) (fun _ _ _ h => h) (by assumption) (by rfl) (fun w hSw => ?_) ?_; rotate_left; (focus (first | (go_simp; done) | (go_simp; with_reducible rfl))); simp only [Act.put, List.setIfInBounds_toArray, List.set_cons_zero, List.set_cons_succ]
              refine alone (i := 4) (oi := ⟨some 113, _, _, _, _, _⟩) rfl (by kernel_rfl) (by rfl) (fun K hK => ?_); go_simp
              refine (rput13_any ao j co O _ (hso.kept (Keeps.refl No wr).drew) (by omega) HoT.out).mono ?_
              rintro e w5 ⟨v5, rfl, hown5, hk5, -⟩
              obtain ⟨a5, c5, rfl, hs5, -⟩ := Sl.ofOwn hown5
              have hc5 := hs5.str (P := Tryz.prog) 22 9 _ Tryz.underlying22 Tryz.underlying5 Tryz.underlying9
              refine hK.out (fun wx => (convert 22 9 (.slice a m c)).run Tryz.prog wx = .ok (.string ⟨b.toArray⟩) wx) _ _ (fun _ h => h) ((hsr.kept ((Keeps.refl No wr).drew.transNo hk5)).str _ _ _ Tryz.underlying22 Tryz.underlying5 Tryz.underlying9) ?_
              clear hK K hS
              intro hS
              refine alone (i := 5) (oi := ⟨some 114, _, _, _, _, _⟩) rfl (by kernel_rfl) (by rfl) (fun K hK => ?_); go_simp
              refine hK.out (fun wx => (convert 22 9 (.slice a m c)).run Tryz.prog wx = .ok (.string ⟨b.toArray⟩) wx) _ _ (fun _ h => h) (hS) ?_
              clear hK K hS
              intro hS
              refine tk (i := 8) (oi := ⟨some 117, _, _, _, _, _⟩) (v := ?_) rfl (by kernel_rfl) (fun _ _ _ h => h) (by assumption) (by rfl) (fun w hSw => ?_) ?_; rotate_left; (focus (first | (go_simp; done) | (go_simp; with_reducible rfl))); simp only [Act.put, List.setIfInBounds_toArray, List.set_cons_zero, List.set_cons_succ]
              refine tk (i := 9) (oi := ⟨some 118, _, _, _, _, _⟩) (v := ?_) rfl (by kernel_rfl) (fun _ _ _ h => h) (by assumption) (by rfl) (fun w hSw => ?_) ?_; rotate_left; (focus (first | (go_simp; done) | (go_simp; with_reducible rfl))); simp only [Act.put, List.setIfInBounds_toArray, List.set_cons_zero, List.set_cons_succ]
              refine wpAnyH_done (by kernel_rfl) ?_ _
              clear hS hc5
              go_wp2_with fail
              go_ret2
              exact DGetPost.no (by rw [HRc.out]; unfold dchk; rw [if_neg HE.out]) (hk0r.drew.transNo hk5)
end Go.Proofs.YthbipcjgpocpaaaGreat
