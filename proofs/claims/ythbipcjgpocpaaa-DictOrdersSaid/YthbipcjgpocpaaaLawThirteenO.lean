/- The walk of DictOrders. -/
import Derived.Test.YthbipcjgpocpaaaLawThirteen
namespace Go.Proofs.Ythbipcjgpocpaaa
open Go.RowKit
set_option linter.unusedSimpArgs false
set_option linter.unusedVariables false
set_option maxRecDepth 100000

theorem encW_snoc_len (W : List Tx) (s : Tx) (h : s.length ≤ 100) : (encW (W ++ [s])).length = (encW W).length + (1 + s.length) := by
  rw [encW_snoc, List.length_append, List.length_append, nat7_low (by omega)]
  simp
theorem headW_len (W : List Tx) (h : W.length ≤ 200) : (headW W).length = (if 127 < W.length then 2 else 1) + (encW W).length := by
  unfold headW
  rw [List.length_append]
  by_cases h1 : 127 < W.length
  · rw [if_pos h1, nat7_step (by omega), nat7_low (by omega)]; simp
  · rw [if_neg h1, nat7_low (by omega)]; simp

set_option maxHeartbeats 4000000 in
theorem dictOrders_any (a : Option Addr) (n c : Nat) (L : List Tx) (w : World) (hs : Sl w a n c (L.map txV)) (hn : n ≤ 140737488351232) :
    Calls Try.prog 5 #[.slice a n c] w fun e w' => e = .returned (.bool true) ∧ Keeps No w w' := by
  have hlen : L.length = n := by simpa using hs.len
  have Hlen := Lib.hid hlen
  clear hlen
  go_enter Try.func5, Try.ntmps5
  go_wp2_with fail
  refine (first13_any _).mono ?_
  rintro e w1 ⟨rfl, hk1⟩
  by_cases hbig : n ≤ 200
  case neg =>
    go_wp2_with fail
    go_ret
    exact ⟨rfl, hk1⟩
  have hs1 := hs.kept hk1
  obtain ⟨Z, hZ⟩ : ∃ Z, Z = L.reverse := ⟨_, rfl⟩
  have HZ := Lib.hid hZ
  clear hZ
  go_wp2_with fail
  go_loopg [21, 3] n (fun q i tv wr => ∃ k : Nat, k ≤ n ∧ q = n - k ∧ i = .int .i64 (k : Int) ∧ Hid (∀ x ∈ L.take k, x.length ≤ 100) ∧ wr.ownsRow w1.heap.size 9 1 tv k ((Z.take k).map txV) ∧ Keeps No w1 wr)
  case atStart => exact ⟨0, Nat.zero_le _, rfl, rfl, Lib.hid (by simp), World.ownsRow_nil _ _ _ _, Keeps.refl _ _⟩
  case round =>
    obtain ⟨k, hk, hq, rfl, HT, hown, hkr⟩ := hrel
    have Hq := Lib.hid hq
    clear hq
    have hown' := hown
    obtain ⟨at_, ct, rfl, hst, -⟩ := Sl.ofOwn hown'
    clear hown'
    by_cases hlt : k < n
    case pos =>
      have hkL : k < L.length := by rw [Hlen.out]; exact hlt
      have hix := hs1.ix (P := Try.prog) Try.underlying22 (by kernel_rfl) hlt .i64
      have hcm := (hs1.kept hkr).at_ hlt
      obtain ⟨x, hx⟩ : ∃ x, x = L[k] := ⟨_, rfl⟩
      have hbv : (L.map txV).getD k undef = .string ⟨x.toArray⟩ := by rw [hx]; simp [hkL, txV]
      rw [hbv] at hcm
      have hst1 : L.take (k + 1) = L.take k ++ [x] := by rw [List.take_succ_eq_append_getElem hkL, ← hx]
      have Hst := Lib.hid hst1
      clear hx hbv hst1
      by_cases hxl : x.length ≤ 100
      case neg =>
        have hxl' : ¬ (x.length : Int) ≤ 100 := by omega
        go_wp2_with fail
        go_ret
        exact ⟨rfl, hk1.transNo hkr⟩
      have hjn : n - 1 - k < n := by omega
      have hjL : n - 1 - k < L.length := by rw [Hlen.out]; exact hjn
      have hixj := hs1.ixz (P := Try.prog) Try.underlying22 (by kernel_rfl) ((n : Int) - 1 - (k : Int)) (i := n - 1 - k) (by omega) hjn .i64
      have hcj := (hs1.kept hkr).at_ hjn
      obtain ⟨y, hy⟩ : ∃ y, y = L[n - 1 - k] := ⟨_, rfl⟩
      have hby : (L.map txV).getD (n - 1 - k) undef = .string ⟨y.toArray⟩ := by rw [hy]; simp [hjL, txV]
      rw [hby] at hcj
      have hrv : (Z.take k).map txV ++ [.string ⟨y.toArray⟩] = (Z.take (k + 1)).map txV := by
        rw [HZ.out]
        have hkR : k < L.reverse.length := by rw [List.length_reverse]; exact hkL
        rw [List.take_succ_eq_append_getElem hkR, List.getElem_reverse, List.map_append]
        congr 1
        rw [hy]
        simp only [Hlen.out]
        rfl
      have Hrv := Lib.hid hrv
      have hkA : Keeps No wr (wr.alloc (.cells #[.string ⟨y.toArray⟩] 9)) := (Keeps.refl No _).alloc _
      have hzr := hkr.size
      clear hy hby hrv
      go_wp2_with (at_builtin; go_loud (refine app_own rfl (.tmp 30) (.tmp 39) 22 rfl w1.heap.size 9 (.string ByteArray.empty) 16 Try.underlying22 str_infoQ rfl (by decide) _ k ((Z.take k).map txV) rfl (hkA.own hown (fun _ _ => not_No _)) _ 1 1 [.string ⟨y.toArray⟩] rfl (Sl.one _ _ _) ?h1 ?hb ?hB ?_))
      case h1 => first | rfl | (intro z hz; simp at hz; subst hz; rfl)
      case hb => omega
      case hB => first | omega | (simp; omega)
      intro v7 w7 hown7 hg7
      have hk7 : Keeps No w1 w7 := (hkr.transNo hkA).grown hg7 (fun i hi hlt2 => by have := (hown.lt i hi).1; omega)
      rw [← List.map_take, Hrv.out] at hown7
      clear hg7 hkA hown hkr hst
      go_wp2_with fail
      go_roundg (n - (k + 1))
      case measure => have := Hq.out; omega
      case rel =>
        refine ⟨k + 1, by omega, rfl, by go_num, Lib.hid (fun z hz => ?_), hown7, hk7⟩
        rw [Hst.out] at hz
        rcases List.mem_append.1 hz with hz | hz
        · exact HT.out z hz
        · simp at hz; subst hz; exact hxl
    obtain rfl : n = k := by omega
    have hT : ∀ x ∈ L, x.length ≤ 100 := fun x hx => HT.out x (by rw [← Hlen.out, List.take_length]; exact hx)
    have hZ := HZ.out
    have hTr : Z.take n = Z := by rw [hZ, ← Hlen.out, ← List.length_reverse, List.take_length]
    rw [hTr] at hst
    have hZT : ∀ x ∈ Z, x.length ≤ 100 := fun x hx => hT x (by rw [hZ] at hx; exact List.mem_reverse.1 hx)
    have hZl : Z.length = n := by rw [hZ, List.length_reverse]; exact Hlen.out
    obtain ⟨W, hW⟩ : ∃ W, W = wordsL L := ⟨_, rfl⟩
    have hWZ : wordsL Z = W := by rw [hW]; exact wordsL_perm (fun x => by rw [hZ, List.mem_reverse])
    have hWT : ∀ x ∈ W, x.length ≤ 100 := fun x hx => hT x ((wordsL_mem L x).1 (by rw [← hW]; exact hx))
    have hWl : W.length ≤ n := by rw [hW, ← Hlen.out]; exact wordsL_len L
    have hp1 : dputL L = headW W ++ bitsPut (atW W L) := by rw [hW]; rfl
    have hp2 : dputL Z = headW W ++ bitsPut (atW W Z) := by rw [← hWZ]; rfl
    have hhl := headW_len W (by omega)
    have hg1 := dget_put L n Hlen.out (fun x hx => by have := hT x hx; omega)
    have hg2 := dget_put Z n hZl (fun x hx => by have := hZT x hx; omega)
    rw [if_pos (by omega)] at hg1 hg2
    have hl1 := dputL_len L 100 (by rw [Hlen.out]; omega) hT (by omega)
    have hl2 := dputL_len Z 100 (by rw [hZl]; omega) hZT (by omega)
    rw [Hlen.out] at hl1
    rw [hZl] at hl2
    have h110 : n * (100 + 10) ≤ 200 * 110 := Nat.mul_le_mul hbig (Nat.le_refl _)
    have hT5 : ∀ x ∈ L, x.length ≤ 100000 := fun x hx => by have := hT x hx; omega
    have hZ5 : ∀ x ∈ Z, x.length ≤ 100000 := fun x hx => by have := hZT x hx; omega
    obtain ⟨X, hX⟩ : ∃ X, X = dputL L := ⟨_, rfl⟩
    obtain ⟨Y, hY⟩ : ∃ Y, Y = dputL Z := ⟨_, rfl⟩
    rw [← hX] at hp1 hg1 hl1
    rw [← hY] at hp2 hg2 hl2
    obtain ⟨S, hS0⟩ : ∃ S, S = (headW W).length := ⟨_, rfl⟩
    have hXS : S ≤ X.length := by rw [hp1, List.length_append, ← hS0]; omega
    have hYS : S ≤ Y.length := by rw [hp2, List.length_append, ← hS0]; omega
    have hXt : X.take S = headW W := by rw [hp1, hS0, List.take_left]
    have hYt : Y.take S = headW W := by rw [hp2, hS0, List.take_left]
    rw [← hS0] at hhl
    have hXb : X.length ≤ 100000 := by omega
    have hYb : Y.length ≤ 100000 := by omega
    have hsW : S ≤ 100000 := by omega
    have hc1 : Calls Try.prog 16 #[.slice a n c] wr fun e w' => ∃ v, e = .returned v ∧ w'.ownsRow wr.heap.size 9 1 v W.length (W.map txV) ∧ Keeps No wr w' := by rw [hW]; exact rwords_any a n c L wr (hs1.kept hkr) (by omega)
    have hc2 : ∀ wx, Keeps No wr wx → Calls Try.prog 16 #[.slice a n c] wx fun e w' => ∃ v, e = .returned v ∧ w'.ownsRow wx.heap.size 9 1 v W.length (W.map txV) ∧ Keeps No wx w' := by rw [hW]; exact fun wx hx => rwords_any a n c L wx ((hs1.kept hkr).kept hx) (by omega)
    have hc3 : ∀ wx, Keeps No wr wx → Calls Try.prog 11 #[.slice a n c] wx fun e w' => ∃ v, e = .returned v ∧ w'.ownsRow wx.heap.size 5 1 v X.length (X.map byteV) ∧ Keeps No wx w' := by
      rw [hX]
      exact fun wx hx => (dput_any a n c L wx ((hs1.kept hkr).kept hx) (by omega) hT5).mono (by rintro e w' ⟨v, h1, h2, h3, -⟩; exact ⟨v, h1, h2, h3⟩)
    have hc4 : ∀ wx, Keeps No wr wx → Calls Try.prog 11 #[.slice at_ n ct] wx fun e w' => ∃ v, e = .returned v ∧ w'.ownsRow wx.heap.size 5 1 v Y.length (Y.map byteV) ∧ Keeps No wx w' := by
      rw [hY]
      exact fun wx hx => (dput_any at_ n ct Z wx (hst.kept hx) (by omega) hZ5).mono (by rintro e w' ⟨v, h1, h2, h3, -⟩; exact ⟨v, h1, h2, h3⟩)
    have Hg1 := Lib.hid hg1
    have Hg2 := Lib.hid hg2
    have Hhl := Lib.hid hhl
    have HWT := Lib.hid hWT
    have HXt := Lib.hid hXt
    have HYt := Lib.hid hYt
    have Hc2 := Lib.hid hc2
    have Hc3 := Lib.hid hc3
    have Hc4 := Lib.hid hc4
    have HZl := Lib.hid hZl
    have hkw := hk1.transNo hkr
    have hs1r := hs1.kept hkr
    clear hT hTr hZ HZ hZT hZl hW hWZ hWT hp1 hp2 hhl hg1 hg2 hl1 hl2 h110 hT5 hZ5 hX hY hS0 hXt hYt hc2 hc3 hc4 hk1 hkr hs1 hown HT Hq hs
    generalize wr = wa at hkw hs1r hst hc1 Hc2 Hc3 Hc4 ⊢
    go_wp2_with fail
    refine hc1.mono ?_
    rintro e w2 ⟨v2, rfl, hown2, hk2⟩
    obtain ⟨a2, c2, rfl, hs2, -⟩ := Sl.ofOwn hown2
    obtain ⟨m, hm⟩ : ∃ m, W.length = m := ⟨_, rfl⟩
    rw [hm] at hs2 hWl
    rw [hm] at Hhl
    have Hm := Lib.hid hm
    rw [hm]
    clear hm hown2 hc1
    go_wp2_with fail
    go_loopg [45, 4] m (fun q i sv wx => ∃ k : Nat, k ≤ m ∧ q = m - k ∧ i = .int .i64 (k : Int) ∧ sv = .int .i64 ((1 + (encW (W.take k)).length : Nat) : Int) ∧ (encW (W.take k)).length ≤ k * 101 ∧ wx = w2)
    case atStart => exact ⟨0, Nat.zero_le _, rfl, rfl, rfl, Nat.zero_le _, rfl⟩
    case round =>
      obtain ⟨k, hk2', hq, rfl, rfl, hel, hwx⟩ := hrel
      have Hq := Lib.hid hq
      clear hq
      subst hwx
      by_cases hlt2 : k < m
      case pos =>
        have hkW : k < W.length := by rw [Hm.out]; exact hlt2
        have hix := hs2.ix (P := Try.prog) Try.underlying22 (by kernel_rfl) hlt2 .i64
        have hcm := hs2.at_ hlt2
        obtain ⟨x, hx⟩ : ∃ x, x = W[k] := ⟨_, rfl⟩
        have hbv : (W.map txV).getD k undef = .string ⟨x.toArray⟩ := by rw [hx]; simp [hkW, txV]
        rw [hbv] at hcm
        have hxl : x.length ≤ 100 := HWT.out x (by rw [hx]; exact List.getElem_mem hkW)
        have hel2 := encW_snoc_len (W.take k) x hxl
        rw [hx, ← List.take_succ_eq_append_getElem hkW, ← hx] at hel2
        have Hel2 := Lib.hid hel2
        have hk101 : k * 101 ≤ 200 * 101 := Nat.mul_le_mul_right _ (by omega)
        generalize (encW (W.take k)).length = E at hel hel2 Hel2
        clear hx hbv hel2
        go_wp2_with fail
        go_roundg (m - (k + 1))
        case measure => have := Hq.out; omega
        case rel =>
          have h1 := Hel2.out
          refine ⟨k + 1, by omega, rfl, by go_num, ?_, by omega, rfl⟩
          rw [h1]
          go_num
      obtain rfl : k = m := by omega
      rw [show W.take k = W from by rw [← Hm.out, List.take_length]] at hel ⊢
      generalize (encW W).length = E at hel Hhl
      have hk101 : k * 101 ≤ 200 * 101 := Nat.mul_le_mul_right _ (by omega)
      go_wp2_with fail
      refine (Hc2.out _ hk2).mono ?_
      rintro e w3 ⟨v3, rfl, hown3, hkc⟩
      obtain ⟨a3, c3, rfl, hs3, -⟩ := Sl.ofOwn hown3
      have h1 := Hhl.out
      rw [Hm.out]
      clear hown3 hs3 hs2
      by_cases h127 : 127 < k
      · rw [if_pos h127] at h1
        obtain rfl : E = S - 2 := by omega
        have hS2 : 2 ≤ S := by omega
        have hSi : 1 + ((S - 2 : Nat) : Int) + 1 = (S : Int) := by omega
        clear h1 hel hk101
        have hkac := hk2.transNo hkc
        have hkwc := hkw.transNo hkac
        have hs1c := hs1r.kept hkac
        have hstc := hst.kept hkac
        clear hkw
        go_wp2_with fail
        refine (Hc3.out _ hkac).mono ?_
        rintro e w4 ⟨v4, rfl, hown4, hk4⟩
        obtain ⟨a4, c4, rfl, hs4, -⟩ := Sl.ofOwn hown4
        have hka4 := hkac.transNo hk4
        go_wp2_with fail
        refine (Hc4.out _ hka4).mono ?_
        rintro e w5 ⟨v5, rfl, hown5, hk5⟩
        obtain ⟨a5, c5, rfl, hs5, -⟩ := Sl.ofOwn hown5
        have hs45 := hs4.kept hk5
        clear hown4 hown5 hka4
        go_wp2_with fail
        refine (dget_any a4 X.length c4 X n _ hs45 hXb (wf_nat n (by omega))).mono ?_
        intro e w6 h6
        obtain ⟨a6, c6, rfl, hs6, hk6⟩ := h6.outOk Hg1.out
        clear h6
        have hs56 := hs5.kept hk6
        go_wp2_with fail
        refine (dget_any a5 Y.length c5 Y n _ hs56 hYb (wf_nat n (by omega))).mono ?_
        intro e w7 h7
        obtain ⟨a7, c7, rfl, hs7, hk7⟩ := h7.outOk Hg2.out
        clear h7
        rw [Hlen.out] at hs6
        rw [HZl.out] at hs7
        rw [Hlen.out, HZl.out]
        have hk67 := hk6.transNo hk7
        have hk57 := hk5.transNo hk67
        have hsX := hs45.kept hk67
        have hsY := hs56.kept hk7
        have hs67 := hs6.kept hk7
        have hsL := hs1c.kept (hk4.transNo hk57)
        have hsZ := hstc.kept (hk4.transNo hk57)
        have hkw7 := hkwc.transNo (hk4.transNo hk57)
        obtain ⟨aX, hx1, hx2, hsXt, -⟩ := hsX.upto (P := Try.prog) Try.underlying24 (by kernel_rfl) (k := S) hXS .i64 (S : Int) rfl
        obtain ⟨aY, hy1, hy2, hsYt, -⟩ := hsY.upto (P := Try.prog) Try.underlying24 (by kernel_rfl) (k := S) hYS .i64 (S : Int) rfl
        rw [← List.map_take, HXt.out] at hsXt
        rw [← List.map_take, HYt.out] at hsYt
        have hXi : (S : Int) ≤ (X.length : Int) := by omega
        have hYi : (S : Int) ≤ (Y.length : Int) := by omega
        obtain ⟨HD, hHD⟩ : ∃ HD, HD = headW W := ⟨_, rfl⟩
        rw [← hHD] at hsXt hsYt
        have hstX : ∀ wx, Keeps No w7 wx → (convert 24 9 (.slice aX S c4)).run Try.prog wx = .ok (.string ⟨HD.toArray⟩) wx :=
          fun wx hx => (hsXt.kept hx).str (P := Try.prog) 24 9 5 Try.underlying24 Try.underlying5 Try.underlying9
        have hstY : ∀ wx, Keeps No w7 wx → (convert 24 9 (.slice aY S c5)).run Try.prog wx = .ok (.string ⟨HD.toArray⟩) wx :=
          fun wx hx => (hsYt.kept hx).str (P := Try.prog) 24 9 5 Try.underlying24 Try.underlying5 Try.underlying9
        clear hHD hs45 hs56 hs5 hs6 hs4 hsX hsY hsXt hsYt hs1c hstc hk4 hk5 hk6 hk7 hk67 hk57
        go_wp2_with fail
        refine wp_region_held_drew (S := fun wx => Keeps No w7 wx) (by kernel_rfl) ((Keeps.refl _ _).drew) (fun hS => ?_)
        refine tk (i := 0) (oi := ⟨some 79, _, _, _, _, _⟩) (v := ?_) rfl (by kernel_rfl) (fun _ _ _ h => h) (by assumption) (by rfl) (fun w hSw => ?_) ?_; rotate_left; (focus (first | (go_simp; done) | (go_simp; with_reducible rfl))); simp only [Act.put, List.setIfInBounds_toArray, List.set_cons_zero, List.set_cons_succ]
        refine tk (i := 1) (oi := ⟨some 80, _, _, _, _, _⟩) (v := ?_) rfl (by kernel_rfl) (fun _ _ _ h => h) (by assumption) (by rfl) (fun w hSw => ?_) ?_; rotate_left; (focus (first | (go_simp; done) | (go_simp; with_reducible rfl))); simp only [Act.put, List.setIfInBounds_toArray, List.set_cons_zero, List.set_cons_succ]
        refine tk (i := 2) (oi := ⟨some 81, _, _, _, _, _⟩) (v := ?_) rfl (by kernel_rfl) (fun _ _ _ h => h) (by assumption) (by rfl) (fun w hSw => ?_) ?_; rotate_left; (focus (first | (go_simp; done) | (go_simp; with_reducible rfl))); simp only [Act.put, List.setIfInBounds_toArray, List.set_cons_zero, List.set_cons_succ]
        refine tk (i := 3) (oi := ⟨some 82, _, _, _, _, _⟩) (v := ?_) rfl (by kernel_rfl) (fun _ _ _ h => h) (by assumption) (by rfl) (fun w hSw => ?_) ?_; rotate_left; (focus (first | (go_simp; done) | (go_simp; with_reducible rfl))); simp only [Act.put, List.setIfInBounds_toArray, List.set_cons_zero, List.set_cons_succ]
        refine tk (i := 4) (oi := ⟨some 83, _, _, _, _, _⟩) (v := ?_) rfl (by kernel_rfl) (fun _ _ _ h => h) (by assumption) (by rfl) (fun w hSw => ?_) ?_; rotate_left; (focus (first | (go_simp; done) | (go_simp; with_reducible rfl))); simp only [Act.put, List.setIfInBounds_toArray, List.set_cons_zero, List.set_cons_succ]
        refine tk (i := 5) (oi := ⟨some 84, _, _, _, _, _⟩) (v := ?_) rfl (by kernel_rfl) (fun _ _ _ h => h) (by assumption) (by rfl) (fun w hSw => ?_) ?_; rotate_left; (focus (first | (go_simp; done) | (go_simp; with_reducible rfl))); simp only [Act.put, List.setIfInBounds_toArray, List.set_cons_zero, List.set_cons_succ]
        refine tk (i := 6) (oi := ⟨some 85, _, _, _, _, _⟩) (v := ?_) rfl (by kernel_rfl) (fun _ _ _ h => h) (by assumption) (by rfl) (fun w hSw => ?_) ?_; rotate_left; (focus (first | (go_simp; done) | (go_simp; with_reducible rfl))); simp only [Act.put, List.setIfInBounds_toArray, List.set_cons_zero, List.set_cons_succ]
        refine tk (i := 7) (oi := ⟨some 86, _, _, _, _, _⟩) (v := ?_) rfl (by kernel_rfl) (fun _ _ _ h => h) (by assumption) (by rfl) (fun w hSw => ?_) ?_; rotate_left; (focus (first | (go_simp; done) | (go_simp; with_reducible rfl))); simp only [Act.put, List.setIfInBounds_toArray, List.set_cons_zero, List.set_cons_succ]
        refine tk (i := 8) (oi := ⟨some 87, _, _, _, _, _⟩) (v := ?_) rfl (by kernel_rfl) (fun _ _ _ h => h) (by assumption) (by rfl) (fun w hSw => ?_) ?_; rotate_left; (focus (first | (go_simp; done) | (go_simp; with_reducible rfl))); simp only [Act.put, List.setIfInBounds_toArray, List.set_cons_zero, List.set_cons_succ]
        refine tk (i := 9) (oi := ⟨some 88, _, _, _, _, _⟩) (v := ?_) rfl (by kernel_rfl) (fun _ _ _ h => h) (by assumption) (by rfl) (fun w hSw => ?_) ?_; rotate_left; (focus (first | (go_simp; done) | (go_simp; with_reducible rfl))); simp only [Act.put, List.setIfInBounds_toArray, List.set_cons_zero, List.set_cons_succ]
        refine tk (i := 10) (oi := ⟨some 89, _, _, _, _, _⟩) (v := ?_) rfl (by kernel_rfl) (fun _ _ _ h => h) (by assumption) (by rfl) (fun w hSw => ?_) ?_; rotate_left; (focus (first | (go_simp; done) | (go_simp; with_reducible rfl))); simp only [Act.put, List.setIfInBounds_toArray, List.set_cons_zero, List.set_cons_succ]
        refine tk (i := 11) (oi := ⟨some 90, _, _, _, _, _⟩) (v := ?_) rfl (by kernel_rfl) (fun _ _ _ h => h) (by assumption) (by rfl) (fun w hSw => ?_) ?_; rotate_left; (focus (first | (go_simp; done) | (go_simp; with_reducible rfl))); simp only [Act.put, List.setIfInBounds_toArray, List.set_cons_zero, List.set_cons_succ]
        refine tk (i := 12) (oi := ⟨some 91, _, _, _, _, _⟩) (v := ?_) rfl (by kernel_rfl) (fun _ _ _ h => h) (by assumption) (by rfl) (fun w hSw => ?_) ?_; rotate_left; (focus (first | (go_simp; done) | (go_simp; with_reducible rfl))); simp only [Act.put, List.setIfInBounds_toArray, List.set_cons_zero, List.set_cons_succ]
        refine tk (i := 13) (oi := ⟨some 92, _, _, _, _, _⟩) (v := ?_) rfl (by kernel_rfl) (fun _ _ _ h => h) (by assumption) (by rfl) (fun w hSw => ?_) ?_; rotate_left; (focus (first | (go_simp; done) | (go_simp; with_reducible rfl))); simp only [Act.put, List.setIfInBounds_toArray, List.set_cons_zero, List.set_cons_succ]
        refine tk (i := 14) (oi := ⟨some 93, _, _, _, _, _⟩) (v := ?_) rfl (by kernel_rfl) (fun _ _ _ h => h) (by assumption) (by rfl) (fun w hSw => ?_) ?_; rotate_left; (focus (first | (go_simp; done) | (go_simp; with_reducible rfl))); simp only [Act.put, List.setIfInBounds_toArray, List.set_cons_zero, List.set_cons_succ]
        refine tk (i := 15) (oi := ⟨some 94, _, _, _, _, _⟩) (v := ?_) rfl (by kernel_rfl) (fun _ _ _ h => h) (by assumption) (by rfl) (fun w hSw => ?_) ?_; rotate_left; (focus (first | (go_simp; done) | (go_simp; with_reducible rfl))); simp only [Act.put, List.setIfInBounds_toArray, List.set_cons_zero, List.set_cons_succ]
        refine tk (i := 16) (oi := ⟨some 95, _, _, _, _, _⟩) (v := ?_) rfl (by kernel_rfl) (fun _ _ _ h => h) (by assumption) (by rfl) (fun w hSw => ?_) ?_; rotate_left; (focus (first | (go_simp; done) | (go_simp; with_reducible rfl))); simp only [Act.put, List.setIfInBounds_toArray, List.set_cons_zero, List.set_cons_succ]
        refine tk (i := 17) (oi := ⟨some 96, _, _, _, _, _⟩) (v := ?_) rfl (by kernel_rfl) (fun _ _ _ h => h) (by assumption) (by rfl) (fun w hSw => ?_) ?_; rotate_left; (focus (first | (go_simp; done) | (go_simp; with_reducible rfl))); simp only [Act.put, List.setIfInBounds_toArray, List.set_cons_zero, List.set_cons_succ]
        refine tk (i := 18) (oi := ⟨some 97, _, _, _, _, _⟩) (v := ?_) rfl (by kernel_rfl) (fun _ _ _ h => h) (by assumption) (by rfl) (fun w hSw => ?_) ?_; rotate_left; (focus (first | (go_simp; done) | (go_simp; with_reducible rfl))); simp only [Act.put, List.setIfInBounds_toArray, List.set_cons_zero, List.set_cons_succ]
        refine tk (i := 19) (oi := ⟨some 98, _, _, _, _, _⟩) (v := ?_) rfl (by kernel_rfl) (fun _ _ _ h => h) (by assumption) (by rfl) (fun w hSw => ?_) ?_; rotate_left; (focus (first | (go_simp; done) | (go_simp; with_reducible rfl))); simp only [Act.put, List.setIfInBounds_toArray, List.set_cons_zero, List.set_cons_succ]
        refine tk (i := 20) (oi := ⟨some 99, _, _, _, _, _⟩) (v := ?_) rfl (by kernel_rfl) (fun _ _ _ h => h) (by assumption) (by rfl) (fun w hSw => ?_) ?_; rotate_left; (focus (first | (go_simp; done) | (go_simp; with_reducible rfl))); simp only [Act.put, List.setIfInBounds_toArray, List.set_cons_zero, List.set_cons_succ]
        refine tk (i := 21) (oi := ⟨some 100, _, _, _, _, _⟩) (v := ?_) rfl (by kernel_rfl) (fun _ _ _ h => h) (by assumption) (by rfl) (fun w hSw => ?_) ?_; rotate_left; (focus (first | (go_simp; done) | (go_simp; with_reducible rfl))); simp only [Act.put, List.setIfInBounds_toArray, List.set_cons_zero, List.set_cons_succ]
        refine tk (i := 22) (oi := ⟨some 101, _, _, _, _, _⟩) (v := ?_) rfl (by kernel_rfl) (fun _ _ _ h => h) (by assumption) (by rfl) (fun w hSw => ?_) ?_; rotate_left; (focus (first | (go_simp; done) | (go_simp; with_reducible rfl))); simp only [Act.put, List.setIfInBounds_toArray, List.set_cons_zero, List.set_cons_succ]
        refine tk (i := 23) (oi := ⟨some 102, _, _, _, _, _⟩) (v := ?_) rfl (by kernel_rfl) (fun _ _ _ h => h) (by assumption) (by rfl) (fun w hSw => ?_) ?_; rotate_left; (focus (first | (go_simp; done) | (go_simp; with_reducible rfl))); simp only [Act.put, List.setIfInBounds_toArray, List.set_cons_zero, List.set_cons_succ]
        refine tk (i := 24) (oi := ⟨some 103, _, _, _, _, _⟩) (v := ?_) rfl (by kernel_rfl) (fun _ _ _ h => h) (by assumption) (by rfl) (fun w hSw => ?_) ?_; rotate_left; (focus (first | (go_simp; done) | (go_simp; with_reducible rfl))); simp only [Act.put, List.setIfInBounds_toArray, List.set_cons_zero, List.set_cons_succ]
        refine tk (i := 25) (oi := ⟨some 104, _, _, _, _, _⟩) (v := ?_) rfl (by kernel_rfl) (fun _ _ _ h => h) (by assumption) (by rfl) (fun w hSw => ?_) ?_; rotate_left; (focus (first | (go_simp; done) | (go_simp; with_reducible rfl))); simp only [Act.put, List.setIfInBounds_toArray, List.set_cons_zero, List.set_cons_succ]
        refine tk (i := 26) (oi := ⟨some 105, _, _, _, _, _⟩) (v := ?_) rfl (by kernel_rfl) (fun _ _ _ h => h) (by assumption) (by rfl) (fun w hSw => ?_) ?_; rotate_left; (focus (first | (go_simp; done) | (go_simp; with_reducible rfl))); simp only [Act.put, List.setIfInBounds_toArray, List.set_cons_zero, List.set_cons_succ]
        refine tk (i := 27) (oi := ⟨some 106, _, _, _, _, _⟩) (v := ?_) rfl (by kernel_rfl) (fun _ _ _ h => h) (by assumption) (by rfl) (fun w hSw => ?_) ?_; rotate_left; (focus (first | (go_simp; done) | (go_simp; with_reducible rfl))); simp only [Act.put, List.setIfInBounds_toArray, List.set_cons_zero, List.set_cons_succ]
        refine tk (i := 28) (oi := ⟨some 107, _, _, _, _, _⟩) (v := ?_) rfl (by kernel_rfl) (fun _ _ _ h => h) (by assumption) (by rfl) (fun w hSw => ?_) ?_; rotate_left; (focus (first | (go_simp; done) | (go_simp; with_reducible rfl))); simp only [Act.put, List.setIfInBounds_toArray, List.set_cons_zero, List.set_cons_succ]
        refine tk (i := 29) (oi := ⟨some 108, _, _, _, _, _⟩) (v := ?_) rfl (by kernel_rfl) (fun _ _ _ h => h) (by assumption) (by rfl) (fun w hSw => ?_) ?_; rotate_left; (focus (first | (go_simp; done) | (go_simp; with_reducible rfl))); simp only [Act.put, List.setIfInBounds_toArray, List.set_cons_zero, List.set_cons_succ]
        refine alone (i := 30) (oi := ⟨some 109, _, _, _, _, _⟩) rfl (by kernel_rfl) (by rfl) (fun K hK => ?_); go_simp
        refine (dsame_any a6 n c6 L a n c L _ (hs67.kept hS) (hsL.kept hS)).mono ?_
        rintro e w8 ⟨rfl, hk8⟩
        have hk78 := hS.transNo hk8
        have hstX := fun wx (hx : Keeps No w8 wx) => hstX wx (hk78.transNo hx)
        have hstY := fun wx (hx : Keeps No w8 wx) => hstY wx (hk78.transNo hx)
        refine hK.out (fun wx => Keeps No w8 wx) _ _ (fun _ hx => hS.transNo (Keeps.transNo (hk8) hx)) (Keeps.refl _ _) ?_
        clear hK K hS
        intro hS
        refine tk (i := 31) (oi := ⟨some 110, _, _, _, _, _⟩) (v := ?_) rfl (by kernel_rfl) (fun _ _ _ h => h) (by assumption) (by rfl) (fun w hSw => ?_) ?_; rotate_left; (focus (first | (go_simp; done) | (go_simp; with_reducible rfl))); simp only [Act.put, List.setIfInBounds_toArray, List.set_cons_zero, List.set_cons_succ]
        refine tk (i := 32) (oi := ⟨some 111, _, _, _, _, _⟩) (v := ?_) rfl (by kernel_rfl) (fun _ _ _ h => h) (by assumption) (by rfl) (fun w hSw => ?_) ?_; rotate_left; (focus (first | (go_simp; done) | (go_simp; with_reducible rfl))); simp only [Act.put, List.setIfInBounds_toArray, List.set_cons_zero, List.set_cons_succ]
        refine tk (i := 33) (oi := ⟨some 112, _, _, _, _, _⟩) (v := ?_) rfl (by kernel_rfl) (fun _ _ _ h => h) (by assumption) (by rfl) (fun w hSw => ?_) ?_; rotate_left; (focus (first | (go_simp; done) | (go_simp; with_reducible rfl))); simp only [Act.put, List.setIfInBounds_toArray, List.set_cons_zero, List.set_cons_succ]
        refine tk (i := 34) (oi := ⟨some 113, _, _, _, _, _⟩) (v := ?_) rfl (by kernel_rfl) (fun _ _ _ h => h) (by assumption) (by rfl) (fun w hSw => ?_) ?_; rotate_left; (focus (first | (go_simp; done) | (go_simp; with_reducible rfl))); simp only [Act.put, List.setIfInBounds_toArray, List.set_cons_zero, List.set_cons_succ]
        refine alone (i := 35) (oi := ⟨some 114, _, _, _, _, _⟩) rfl (by kernel_rfl) (by rfl) (fun K hK => ?_); go_simp
        refine (dsame_any a7 n c7 Z at_ n ct Z _ (hs7.kept (hk78.transNo hS)) (hsZ.kept (hk78.transNo hS))).mono ?_
        rintro e w9 ⟨rfl, hk9⟩
        have hk79 := (hk78.transNo hS).transNo hk9
        refine hK.out (fun wx => Keeps No w9 wx) _ _ (fun _ hx => hS.transNo (Keeps.transNo (hk9) hx)) (Keeps.refl _ _) ?_
        clear hK K hS
        intro hS
        refine tk (i := 36) (oi := ⟨some 115, _, _, _, _, _⟩) (v := ?_) rfl (by kernel_rfl) (fun _ _ _ h => h) (by assumption) (by rfl) (fun w hSw => ?_) ?_; rotate_left; (focus (first | (go_simp; done) | (go_simp; with_reducible rfl))); simp only [Act.put, List.setIfInBounds_toArray, List.set_cons_zero, List.set_cons_succ]
        refine tk (i := 37) (oi := ⟨some 2, _, _, _, _, _⟩) (v := ?_) rfl (by kernel_rfl) (fun _ _ _ h => h) (by assumption) (by rfl) (fun w hSw => ?_) ?_; rotate_left; (focus (first | (go_simp; done) | (go_simp; with_reducible rfl))); simp only [Act.put, List.setIfInBounds_toArray, List.set_cons_zero, List.set_cons_succ]
        refine wpAnyH_done (by kernel_rfl) ?_ _
        go_wp2_with fail
        go_ret
        exact ⟨ret_bool (by simp), hkw7.transNo hk79⟩
      · rw [if_neg h127] at h1
        obtain rfl : E = S - 1 := by omega
        have hS2 : 1 ≤ S := by omega
        have hSi : 1 + ((S - 1 : Nat) : Int) = (S : Int) := by omega
        clear h1 hel hk101
        have hkac := hk2.transNo hkc
        have hkwc := hkw.transNo hkac
        have hs1c := hs1r.kept hkac
        have hstc := hst.kept hkac
        clear hkw
        go_wp2_with fail
        refine (Hc3.out _ hkac).mono ?_
        rintro e w4 ⟨v4, rfl, hown4, hk4⟩
        obtain ⟨a4, c4, rfl, hs4, -⟩ := Sl.ofOwn hown4
        have hka4 := hkac.transNo hk4
        go_wp2_with fail
        refine (Hc4.out _ hka4).mono ?_
        rintro e w5 ⟨v5, rfl, hown5, hk5⟩
        obtain ⟨a5, c5, rfl, hs5, -⟩ := Sl.ofOwn hown5
        have hs45 := hs4.kept hk5
        clear hown4 hown5 hka4
        go_wp2_with fail
        refine (dget_any a4 X.length c4 X n _ hs45 hXb (wf_nat n (by omega))).mono ?_
        intro e w6 h6
        obtain ⟨a6, c6, rfl, hs6, hk6⟩ := h6.outOk Hg1.out
        clear h6
        have hs56 := hs5.kept hk6
        go_wp2_with fail
        refine (dget_any a5 Y.length c5 Y n _ hs56 hYb (wf_nat n (by omega))).mono ?_
        intro e w7 h7
        obtain ⟨a7, c7, rfl, hs7, hk7⟩ := h7.outOk Hg2.out
        clear h7
        rw [Hlen.out] at hs6
        rw [HZl.out] at hs7
        rw [Hlen.out, HZl.out]
        have hk67 := hk6.transNo hk7
        have hk57 := hk5.transNo hk67
        have hsX := hs45.kept hk67
        have hsY := hs56.kept hk7
        have hs67 := hs6.kept hk7
        have hsL := hs1c.kept (hk4.transNo hk57)
        have hsZ := hstc.kept (hk4.transNo hk57)
        have hkw7 := hkwc.transNo (hk4.transNo hk57)
        obtain ⟨aX, hx1, hx2, hsXt, -⟩ := hsX.upto (P := Try.prog) Try.underlying24 (by kernel_rfl) (k := S) hXS .i64 (S : Int) rfl
        obtain ⟨aY, hy1, hy2, hsYt, -⟩ := hsY.upto (P := Try.prog) Try.underlying24 (by kernel_rfl) (k := S) hYS .i64 (S : Int) rfl
        rw [← List.map_take, HXt.out] at hsXt
        rw [← List.map_take, HYt.out] at hsYt
        have hXi : (S : Int) ≤ (X.length : Int) := by omega
        have hYi : (S : Int) ≤ (Y.length : Int) := by omega
        obtain ⟨HD, hHD⟩ : ∃ HD, HD = headW W := ⟨_, rfl⟩
        rw [← hHD] at hsXt hsYt
        have hstX : ∀ wx, Keeps No w7 wx → (convert 24 9 (.slice aX S c4)).run Try.prog wx = .ok (.string ⟨HD.toArray⟩) wx :=
          fun wx hx => (hsXt.kept hx).str (P := Try.prog) 24 9 5 Try.underlying24 Try.underlying5 Try.underlying9
        have hstY : ∀ wx, Keeps No w7 wx → (convert 24 9 (.slice aY S c5)).run Try.prog wx = .ok (.string ⟨HD.toArray⟩) wx :=
          fun wx hx => (hsYt.kept hx).str (P := Try.prog) 24 9 5 Try.underlying24 Try.underlying5 Try.underlying9
        clear hHD hs45 hs56 hs5 hs6 hs4 hsX hsY hsXt hsYt hs1c hstc hk4 hk5 hk6 hk7 hk67 hk57
        go_wp2_with fail
        refine wp_region_held_drew (S := fun wx => Keeps No w7 wx) (by kernel_rfl) ((Keeps.refl _ _).drew) (fun hS => ?_)
        refine tk (i := 0) (oi := ⟨some 79, _, _, _, _, _⟩) (v := ?_) rfl (by kernel_rfl) (fun _ _ _ h => h) (by assumption) (by rfl) (fun w hSw => ?_) ?_; rotate_left; (focus (first | (go_simp; done) | (go_simp; with_reducible rfl))); simp only [Act.put, List.setIfInBounds_toArray, List.set_cons_zero, List.set_cons_succ]
        refine tk (i := 1) (oi := ⟨some 80, _, _, _, _, _⟩) (v := ?_) rfl (by kernel_rfl) (fun _ _ _ h => h) (by assumption) (by rfl) (fun w hSw => ?_) ?_; rotate_left; (focus (first | (go_simp; done) | (go_simp; with_reducible rfl))); simp only [Act.put, List.setIfInBounds_toArray, List.set_cons_zero, List.set_cons_succ]
        refine tk (i := 2) (oi := ⟨some 81, _, _, _, _, _⟩) (v := ?_) rfl (by kernel_rfl) (fun _ _ _ h => h) (by assumption) (by rfl) (fun w hSw => ?_) ?_; rotate_left; (focus (first | (go_simp; done) | (go_simp; with_reducible rfl))); simp only [Act.put, List.setIfInBounds_toArray, List.set_cons_zero, List.set_cons_succ]
        refine tk (i := 3) (oi := ⟨some 82, _, _, _, _, _⟩) (v := ?_) rfl (by kernel_rfl) (fun _ _ _ h => h) (by assumption) (by rfl) (fun w hSw => ?_) ?_; rotate_left; (focus (first | (go_simp; done) | (go_simp; with_reducible rfl))); simp only [Act.put, List.setIfInBounds_toArray, List.set_cons_zero, List.set_cons_succ]
        refine tk (i := 4) (oi := ⟨some 83, _, _, _, _, _⟩) (v := ?_) rfl (by kernel_rfl) (fun _ _ _ h => h) (by assumption) (by rfl) (fun w hSw => ?_) ?_; rotate_left; (focus (first | (go_simp; done) | (go_simp; with_reducible rfl))); simp only [Act.put, List.setIfInBounds_toArray, List.set_cons_zero, List.set_cons_succ]
        refine tk (i := 5) (oi := ⟨some 84, _, _, _, _, _⟩) (v := ?_) rfl (by kernel_rfl) (fun _ _ _ h => h) (by assumption) (by rfl) (fun w hSw => ?_) ?_; rotate_left; (focus (first | (go_simp; done) | (go_simp; with_reducible rfl))); simp only [Act.put, List.setIfInBounds_toArray, List.set_cons_zero, List.set_cons_succ]
        refine tk (i := 6) (oi := ⟨some 85, _, _, _, _, _⟩) (v := ?_) rfl (by kernel_rfl) (fun _ _ _ h => h) (by assumption) (by rfl) (fun w hSw => ?_) ?_; rotate_left; (focus (first | (go_simp; done) | (go_simp; with_reducible rfl))); simp only [Act.put, List.setIfInBounds_toArray, List.set_cons_zero, List.set_cons_succ]
        refine tk (i := 7) (oi := ⟨some 86, _, _, _, _, _⟩) (v := ?_) rfl (by kernel_rfl) (fun _ _ _ h => h) (by assumption) (by rfl) (fun w hSw => ?_) ?_; rotate_left; (focus (first | (go_simp; done) | (go_simp; with_reducible rfl))); simp only [Act.put, List.setIfInBounds_toArray, List.set_cons_zero, List.set_cons_succ]
        refine tk (i := 8) (oi := ⟨some 87, _, _, _, _, _⟩) (v := ?_) rfl (by kernel_rfl) (fun _ _ _ h => h) (by assumption) (by rfl) (fun w hSw => ?_) ?_; rotate_left; (focus (first | (go_simp; done) | (go_simp; with_reducible rfl))); simp only [Act.put, List.setIfInBounds_toArray, List.set_cons_zero, List.set_cons_succ]
        refine tk (i := 9) (oi := ⟨some 88, _, _, _, _, _⟩) (v := ?_) rfl (by kernel_rfl) (fun _ _ _ h => h) (by assumption) (by rfl) (fun w hSw => ?_) ?_; rotate_left; (focus (first | (go_simp; done) | (go_simp; with_reducible rfl))); simp only [Act.put, List.setIfInBounds_toArray, List.set_cons_zero, List.set_cons_succ]
        refine tk (i := 10) (oi := ⟨some 89, _, _, _, _, _⟩) (v := ?_) rfl (by kernel_rfl) (fun _ _ _ h => h) (by assumption) (by rfl) (fun w hSw => ?_) ?_; rotate_left; (focus (first | (go_simp; done) | (go_simp; with_reducible rfl))); simp only [Act.put, List.setIfInBounds_toArray, List.set_cons_zero, List.set_cons_succ]
        refine tk (i := 11) (oi := ⟨some 90, _, _, _, _, _⟩) (v := ?_) rfl (by kernel_rfl) (fun _ _ _ h => h) (by assumption) (by rfl) (fun w hSw => ?_) ?_; rotate_left; (focus (first | (go_simp; done) | (go_simp; with_reducible rfl))); simp only [Act.put, List.setIfInBounds_toArray, List.set_cons_zero, List.set_cons_succ]
        refine tk (i := 12) (oi := ⟨some 91, _, _, _, _, _⟩) (v := ?_) rfl (by kernel_rfl) (fun _ _ _ h => h) (by assumption) (by rfl) (fun w hSw => ?_) ?_; rotate_left; (focus (first | (go_simp; done) | (go_simp; with_reducible rfl))); simp only [Act.put, List.setIfInBounds_toArray, List.set_cons_zero, List.set_cons_succ]
        refine tk (i := 13) (oi := ⟨some 92, _, _, _, _, _⟩) (v := ?_) rfl (by kernel_rfl) (fun _ _ _ h => h) (by assumption) (by rfl) (fun w hSw => ?_) ?_; rotate_left; (focus (first | (go_simp; done) | (go_simp; with_reducible rfl))); simp only [Act.put, List.setIfInBounds_toArray, List.set_cons_zero, List.set_cons_succ]
        refine tk (i := 14) (oi := ⟨some 93, _, _, _, _, _⟩) (v := ?_) rfl (by kernel_rfl) (fun _ _ _ h => h) (by assumption) (by rfl) (fun w hSw => ?_) ?_; rotate_left; (focus (first | (go_simp; done) | (go_simp; with_reducible rfl))); simp only [Act.put, List.setIfInBounds_toArray, List.set_cons_zero, List.set_cons_succ]
        refine tk (i := 15) (oi := ⟨some 94, _, _, _, _, _⟩) (v := ?_) rfl (by kernel_rfl) (fun _ _ _ h => h) (by assumption) (by rfl) (fun w hSw => ?_) ?_; rotate_left; (focus (first | (go_simp; done) | (go_simp; with_reducible rfl))); simp only [Act.put, List.setIfInBounds_toArray, List.set_cons_zero, List.set_cons_succ]
        refine tk (i := 16) (oi := ⟨some 95, _, _, _, _, _⟩) (v := ?_) rfl (by kernel_rfl) (fun _ _ _ h => h) (by assumption) (by rfl) (fun w hSw => ?_) ?_; rotate_left; (focus (first | (go_simp; done) | (go_simp; with_reducible rfl))); simp only [Act.put, List.setIfInBounds_toArray, List.set_cons_zero, List.set_cons_succ]
        refine tk (i := 17) (oi := ⟨some 96, _, _, _, _, _⟩) (v := ?_) rfl (by kernel_rfl) (fun _ _ _ h => h) (by assumption) (by rfl) (fun w hSw => ?_) ?_; rotate_left; (focus (first | (go_simp; done) | (go_simp; with_reducible rfl))); simp only [Act.put, List.setIfInBounds_toArray, List.set_cons_zero, List.set_cons_succ]
        refine tk (i := 18) (oi := ⟨some 97, _, _, _, _, _⟩) (v := ?_) rfl (by kernel_rfl) (fun _ _ _ h => h) (by assumption) (by rfl) (fun w hSw => ?_) ?_; rotate_left; (focus (first | (go_simp; done) | (go_simp; with_reducible rfl))); simp only [Act.put, List.setIfInBounds_toArray, List.set_cons_zero, List.set_cons_succ]
        refine tk (i := 19) (oi := ⟨some 98, _, _, _, _, _⟩) (v := ?_) rfl (by kernel_rfl) (fun _ _ _ h => h) (by assumption) (by rfl) (fun w hSw => ?_) ?_; rotate_left; (focus (first | (go_simp; done) | (go_simp; with_reducible rfl))); simp only [Act.put, List.setIfInBounds_toArray, List.set_cons_zero, List.set_cons_succ]
        refine tk (i := 20) (oi := ⟨some 99, _, _, _, _, _⟩) (v := ?_) rfl (by kernel_rfl) (fun _ _ _ h => h) (by assumption) (by rfl) (fun w hSw => ?_) ?_; rotate_left; (focus (first | (go_simp; done) | (go_simp; with_reducible rfl))); simp only [Act.put, List.setIfInBounds_toArray, List.set_cons_zero, List.set_cons_succ]
        refine tk (i := 21) (oi := ⟨some 100, _, _, _, _, _⟩) (v := ?_) rfl (by kernel_rfl) (fun _ _ _ h => h) (by assumption) (by rfl) (fun w hSw => ?_) ?_; rotate_left; (focus (first | (go_simp; done) | (go_simp; with_reducible rfl))); simp only [Act.put, List.setIfInBounds_toArray, List.set_cons_zero, List.set_cons_succ]
        refine tk (i := 22) (oi := ⟨some 101, _, _, _, _, _⟩) (v := ?_) rfl (by kernel_rfl) (fun _ _ _ h => h) (by assumption) (by rfl) (fun w hSw => ?_) ?_; rotate_left; (focus (first | (go_simp; done) | (go_simp; with_reducible rfl))); simp only [Act.put, List.setIfInBounds_toArray, List.set_cons_zero, List.set_cons_succ]
        refine tk (i := 23) (oi := ⟨some 102, _, _, _, _, _⟩) (v := ?_) rfl (by kernel_rfl) (fun _ _ _ h => h) (by assumption) (by rfl) (fun w hSw => ?_) ?_; rotate_left; (focus (first | (go_simp; done) | (go_simp; with_reducible rfl))); simp only [Act.put, List.setIfInBounds_toArray, List.set_cons_zero, List.set_cons_succ]
        refine tk (i := 24) (oi := ⟨some 103, _, _, _, _, _⟩) (v := ?_) rfl (by kernel_rfl) (fun _ _ _ h => h) (by assumption) (by rfl) (fun w hSw => ?_) ?_; rotate_left; (focus (first | (go_simp; done) | (go_simp; with_reducible rfl))); simp only [Act.put, List.setIfInBounds_toArray, List.set_cons_zero, List.set_cons_succ]
        refine tk (i := 25) (oi := ⟨some 104, _, _, _, _, _⟩) (v := ?_) rfl (by kernel_rfl) (fun _ _ _ h => h) (by assumption) (by rfl) (fun w hSw => ?_) ?_; rotate_left; (focus (first | (go_simp; done) | (go_simp; with_reducible rfl))); simp only [Act.put, List.setIfInBounds_toArray, List.set_cons_zero, List.set_cons_succ]
        refine tk (i := 26) (oi := ⟨some 105, _, _, _, _, _⟩) (v := ?_) rfl (by kernel_rfl) (fun _ _ _ h => h) (by assumption) (by rfl) (fun w hSw => ?_) ?_; rotate_left; (focus (first | (go_simp; done) | (go_simp; with_reducible rfl))); simp only [Act.put, List.setIfInBounds_toArray, List.set_cons_zero, List.set_cons_succ]
        refine tk (i := 27) (oi := ⟨some 106, _, _, _, _, _⟩) (v := ?_) rfl (by kernel_rfl) (fun _ _ _ h => h) (by assumption) (by rfl) (fun w hSw => ?_) ?_; rotate_left; (focus (first | (go_simp; done) | (go_simp; with_reducible rfl))); simp only [Act.put, List.setIfInBounds_toArray, List.set_cons_zero, List.set_cons_succ]
        refine tk (i := 28) (oi := ⟨some 107, _, _, _, _, _⟩) (v := ?_) rfl (by kernel_rfl) (fun _ _ _ h => h) (by assumption) (by rfl) (fun w hSw => ?_) ?_; rotate_left; (focus (first | (go_simp; done) | (go_simp; with_reducible rfl))); simp only [Act.put, List.setIfInBounds_toArray, List.set_cons_zero, List.set_cons_succ]
        refine tk (i := 29) (oi := ⟨some 108, _, _, _, _, _⟩) (v := ?_) rfl (by kernel_rfl) (fun _ _ _ h => h) (by assumption) (by rfl) (fun w hSw => ?_) ?_; rotate_left; (focus (first | (go_simp; done) | (go_simp; with_reducible rfl))); simp only [Act.put, List.setIfInBounds_toArray, List.set_cons_zero, List.set_cons_succ]
        refine alone (i := 30) (oi := ⟨some 109, _, _, _, _, _⟩) rfl (by kernel_rfl) (by rfl) (fun K hK => ?_); go_simp
        refine (dsame_any a6 n c6 L a n c L _ (hs67.kept hS) (hsL.kept hS)).mono ?_
        rintro e w8 ⟨rfl, hk8⟩
        have hk78 := hS.transNo hk8
        have hstX := fun wx (hx : Keeps No w8 wx) => hstX wx (hk78.transNo hx)
        have hstY := fun wx (hx : Keeps No w8 wx) => hstY wx (hk78.transNo hx)
        refine hK.out (fun wx => Keeps No w8 wx) _ _ (fun _ hx => hS.transNo (Keeps.transNo (hk8) hx)) (Keeps.refl _ _) ?_
        clear hK K hS
        intro hS
        refine tk (i := 31) (oi := ⟨some 110, _, _, _, _, _⟩) (v := ?_) rfl (by kernel_rfl) (fun _ _ _ h => h) (by assumption) (by rfl) (fun w hSw => ?_) ?_; rotate_left; (focus (first | (go_simp; done) | (go_simp; with_reducible rfl))); simp only [Act.put, List.setIfInBounds_toArray, List.set_cons_zero, List.set_cons_succ]
        refine tk (i := 32) (oi := ⟨some 111, _, _, _, _, _⟩) (v := ?_) rfl (by kernel_rfl) (fun _ _ _ h => h) (by assumption) (by rfl) (fun w hSw => ?_) ?_; rotate_left; (focus (first | (go_simp; done) | (go_simp; with_reducible rfl))); simp only [Act.put, List.setIfInBounds_toArray, List.set_cons_zero, List.set_cons_succ]
        refine tk (i := 33) (oi := ⟨some 112, _, _, _, _, _⟩) (v := ?_) rfl (by kernel_rfl) (fun _ _ _ h => h) (by assumption) (by rfl) (fun w hSw => ?_) ?_; rotate_left; (focus (first | (go_simp; done) | (go_simp; with_reducible rfl))); simp only [Act.put, List.setIfInBounds_toArray, List.set_cons_zero, List.set_cons_succ]
        refine tk (i := 34) (oi := ⟨some 113, _, _, _, _, _⟩) (v := ?_) rfl (by kernel_rfl) (fun _ _ _ h => h) (by assumption) (by rfl) (fun w hSw => ?_) ?_; rotate_left; (focus (first | (go_simp; done) | (go_simp; with_reducible rfl))); simp only [Act.put, List.setIfInBounds_toArray, List.set_cons_zero, List.set_cons_succ]
        refine alone (i := 35) (oi := ⟨some 114, _, _, _, _, _⟩) rfl (by kernel_rfl) (by rfl) (fun K hK => ?_); go_simp
        refine (dsame_any a7 n c7 Z at_ n ct Z _ (hs7.kept (hk78.transNo hS)) (hsZ.kept (hk78.transNo hS))).mono ?_
        rintro e w9 ⟨rfl, hk9⟩
        have hk79 := (hk78.transNo hS).transNo hk9
        refine hK.out (fun wx => Keeps No w9 wx) _ _ (fun _ hx => hS.transNo (Keeps.transNo (hk9) hx)) (Keeps.refl _ _) ?_
        clear hK K hS
        intro hS
        refine tk (i := 36) (oi := ⟨some 115, _, _, _, _, _⟩) (v := ?_) rfl (by kernel_rfl) (fun _ _ _ h => h) (by assumption) (by rfl) (fun w hSw => ?_) ?_; rotate_left; (focus (first | (go_simp; done) | (go_simp; with_reducible rfl))); simp only [Act.put, List.setIfInBounds_toArray, List.set_cons_zero, List.set_cons_succ]
        refine tk (i := 37) (oi := ⟨some 2, _, _, _, _, _⟩) (v := ?_) rfl (by kernel_rfl) (fun _ _ _ h => h) (by assumption) (by rfl) (fun w hSw => ?_) ?_; rotate_left; (focus (first | (go_simp; done) | (go_simp; with_reducible rfl))); simp only [Act.put, List.setIfInBounds_toArray, List.set_cons_zero, List.set_cons_succ]
        refine wpAnyH_done (by kernel_rfl) ?_ _
        go_wp2_with fail
        go_ret
        exact ⟨ret_bool (by simp), hkw7.transNo hk79⟩
theorem dictOrders_walk (a : Option Addr) (n c : Nat) (l : List ByteArray) (w : World) (hs : Sl w a n c (l.map Value.string)) (hn : n * 16 ≤ 140737488351232) :
    Calls Try.prog 5 #[.slice a n c] w fun e w' => e = .returned (.bool true) ∧ Keeps No w w' :=
  dictOrders_any a n c _ w (by rw [← txs_of]; exact hs) (by omega)
end Go.Proofs.Ythbipcjgpocpaaa
