/- The walks of the document's dict: Words, Put, Same. -/
import Derived.Test.YthbipcjgpocpaaaGreatDict
import Derived.Test.YthbipcjgpocpaaaGreatRefBitsG
import Derived.Deep.QuietTactic
namespace Go.Proofs.YthbipcjgpocpaaaGreat
open Go.RowKit
set_option linter.unusedSimpArgs false
set_option linter.unusedVariables false
set_option maxRecDepth 100000

theorem insW_at (s : Tx) : ∀ (W : List Tx) (i : Nat), i ≤ W.length → (∀ j (h : j < W.length), j < i → W[j] < s) → (∀ h : i < W.length, ¬ W[i] < s) →
    insW s W = W.take i ++ (if W[i]? = some s then W.drop i else s :: W.drop i)
  | [], i, hi, _, _ => by simp at hi; subst hi; rfl
  | x :: t, 0, _, _, h2 => by
    have h := h2 (by simp)
    simp only [List.getElem_cons_zero] at h
    unfold insW
    rw [if_neg h]
    simp only [List.take_zero, List.nil_append, List.getElem?_cons_zero, List.drop_zero, Option.some.injEq]
  | x :: t, i + 1, hi, h1, h2 => by
    have hx : x < s := h1 0 (by simp) (by omega)
    unfold insW
    rw [if_pos hx, insW_at s t i (by simp at hi; omega) (fun j h hj => by have := h1 (j + 1) (by simp; omega) (by omega); simpa using this) (fun h => by have := h2 (by simp; omega); simpa using this)]
    simp
theorem ownF {w : World} {base : Nat} {e : TypeId} {k n : Nat} {v : Value} {xs : List Value} (h : w.ownsRow base e k v n xs) (hn : 0 < n) : ∃ g c, v = .slice (some ⟨g, 0, none⟩) n c := by
  rcases h.2 with ⟨_, h0⟩ | ⟨g, c, _, rfl, _⟩
  · omega
  · exact ⟨g, c, rfl⟩
theorem wordsL_snoc (L : List Tx) (s : Tx) : wordsL (L ++ [s]) = insW s (wordsL L) := by simp [wordsL, List.foldl_append]
theorem set_mid (A B : List Tx) (x y : Tx) (i : Nat) (h : A.length = i) : (A ++ x :: B).set i y = A ++ y :: B := by
  subst h
  rw [List.set_append_right _ _ (Nat.le_refl _), Nat.sub_self]
  rfl

theorem getD_mid (A B : List Tx) (y : Tx) (K : Nat) (h : A.length = K) : ((A ++ y :: B).map txV).getD K undef = .string ⟨y.toArray⟩ := by
  subst h
  simp [txV]
theorem getD_pre (W B : List Tx) (J K : Nat) (h : J < K) (hW : J < W.length) : ((W.take K ++ B).map txV).getD J undef = .string ⟨(W[J]).toArray⟩ := by
  have : J < (W.take K).length := by rw [List.length_take]; omega
  rw [List.getD_eq_getElem?_getD, List.getElem?_map, List.getElem?_append_left this, List.getElem?_take_of_lt h, List.getElem?_eq_getElem hW]
  rfl

set_option maxHeartbeats 4000000 in
theorem rwords_any (a : Option Addr) (n c : Nat) (L : List Tx) (w : World) (hs : Sl w a n c (L.map txV)) (hn : n ≤ 1000) :
    Calls Tryz.prog 78 #[.slice a n c] w fun e w' => ∃ v, e = .returned v ∧ w'.ownsRow w.heap.size 9 1 v (wordsL L).length ((wordsL L).map txV) ∧ Keeps No w w' := by
  have hlen : L.length = n := by simpa using hs.len
  have Hl := Lib.hid hlen
  have hmx := hs.max
  have hle := hs.le
  unfold maxLen at hmx
  clear hlen
  go_enter Tryz.func78, Tryz.ntmps78
  go_wp2_with fail
  go_loopg [10, 3] n (fun q i ov wr => ∃ (k m : Nat) (W : List Tx), k ≤ n ∧ q = n - k ∧ i = .int .i64 (k : Int) ∧ Hid (W = wordsL (L.take k)) ∧ Hid (W.length = m) ∧ m ≤ k ∧ wr.ownsRow w.heap.size 9 1 ov m (W.map txV) ∧ Keeps No w wr)
  case atStart => exact ⟨0, 0, [], Nat.zero_le _, rfl, rfl, Lib.hid rfl, Lib.hid rfl, Nat.le_refl _, World.ownsRow_nil _ _ _ _, Keeps.refl _ _⟩
  case round =>
    obtain ⟨k, m, W, hk, hq, rfl, HW, Hm, hmk, hown, hkr⟩ := hrel
    have Hq := Lib.hid hq
    clear hq
    have hown' := hown
    obtain ⟨ao, co, rfl, hso, hao⟩ := Sl.ofOwn hown'
    clear hown'
    by_cases hlt : k < n
    case neg =>
      obtain rfl : k = n := by omega
      go_wp2_with fail
      go_ret
      refine ⟨_, rfl, ?_, hkr⟩
      have e : wordsL L = W := by rw [HW.out, ← Hl.out, List.take_length]
      rw [e, Hm.out]
      exact hown
    have hkL : k < L.length := by rw [Hl.out]; exact hlt
    have hix := hs.ix (P := Tryz.prog) Tryz.underlying64 (by kernel_rfl) hlt .i64
    have hcm := (hs.kept hkr).at_ hlt
    obtain ⟨x, hx⟩ : ∃ x, x = L[k] := ⟨_, rfl⟩
    have hbv : (L.map txV).getD k undef = .string ⟨x.toArray⟩ := by rw [hx]; simp [hkL, txV]
    rw [hbv] at hcm
    have hWx : wordsL (L.take (k + 1)) = insW x W := by rw [List.take_succ_eq_append_getElem hkL, ← hx, wordsL_snoc, ← HW.out]
    have HWx := Lib.hid hWx
    have Hx := Lib.hid hx
    clear hx hbv hWx
    go_wp2_with fail
    go_loopg [6] m (fun q i wx => ∃ t : Nat, t ≤ m ∧ q = m - t ∧ i = .int .i64 (t : Int) ∧ Hid (∀ j (h : j < W.length), j < t → W[j] < x) ∧ wx = wr)
    case atStart => exact ⟨0, Nat.zero_le _, rfl, rfl, Lib.hid (fun j h h2 => by omega), rfl⟩
    case round =>
      obtain ⟨t, ht, hq, rfl, Ht, hwx⟩ := hrel
      have Hq2 := Lib.hid hq
      clear hq
      subst hwx
      have hins := fun h1 h2 => insW_at x W t (by rw [Hm.out]; omega) h1 h2
      by_cases htm : t < m
      · have htW : t < W.length := by rw [Hm.out]; exact htm
        have hixo := hso.ix (P := Tryz.prog) Tryz.underlying64 (by kernel_rfl) htm .i64
        have hcmo := hso.at_ htm
        obtain ⟨u, hu⟩ : ∃ u, u = W[t] := ⟨_, rfl⟩
        have hbu : (W.map txV).getD t undef = .string ⟨u.toArray⟩ := by rw [hu]; simp [htW, txV]
        rw [hbu] at hcmo
        by_cases hux : u < x
        · have hbl : Op.bytesLess u x = true := by rw [bytesLess_eq]; exact decide_eq_true hux
          have hnx : ∀ j (h : j < W.length), j < t + 1 → W[j] < x := fun j h h2 => by
            by_cases e : j = t
            · subst e; rw [← hu]; exact hux
            · exact Ht.out j h (by omega)
          have Hnx := Lib.hid hnx
          clear hnx hins hux hu hbu
          go_wp2_with fail
          go_roundg (m - (t + 1))
          case measure => have := Hq2.out; omega
          case rel => exact ⟨t + 1, by omega, rfl, by go_num, Hnx, rfl⟩
        have hbl : Op.bytesLess u x = false := by rw [bytesLess_eq]; exact decide_eq_false hux
        have hins := hins Ht.out (fun h => by rw [← hu]; exact hux)
        by_cases hueq : u = x
        · have q3 : (u == x) = true := by rw [beq_iff_eq]; exact hueq
          have hins2 : insW x W = W := by
            rw [hins, if_pos (by rw [List.getElem?_eq_getElem htW, ← hu, hueq]), List.take_append_drop]
          have Hins := Lib.hid hins2
          clear hins hins2 hueq hux hu hbu
          go_wp2_with fail
          go_roundg (n - (k + 1))
          case measure => have := Hq.out; omega
          case rel => exact ⟨k + 1, m, W, by omega, rfl, by go_num, Lib.hid (by rw [HWx.out, Hins.out]), Hm, by omega, hown, hkr⟩
        have q3 : (u == x) = false := by rw [beq_eq_false_iff_ne]; exact hueq
        have hne : ¬ W[t]? = some x := by rw [List.getElem?_eq_getElem htW, ← hu]; simpa using hueq
        clear hueq hux hu hbu
        have hins2 : insW x W = W.take t ++ x :: W.drop t := by rw [hins, if_neg hne]
        have Hins := Lib.hid hins2
        clear hins hne hins2
        have hkA : Keeps No wr (wr.alloc (.cells #[.string ⟨#[]⟩] 9)) := (Keeps.refl No _).alloc _
        have hzr := hkr.size
        go_wp2_with (at_builtin; go_loud (refine app_own rfl (.tmp 40) (.tmp 41) 64 rfl w.heap.size 9 (.string ByteArray.empty) 16 Tryz.underlying64 str_infoQ rfl (by decide) _ m (W.map txV) rfl (hkA.own hown (fun _ _ => not_No _)) _ 1 1 [.string ⟨#[]⟩] rfl (Sl.one _ _ _) ?h1 ?hb ?hB ?_))
        case h1 => intro u hu; simp at hu; subst hu; rfl
        case hb => omega
        case hB => simp; omega
        intro v7 w7 hown7 hg7
        have hk7 : Keeps No w w7 := (hkr.transNo hkA).grown hg7 (fun i hi hlt2 => by have := (hown.lt i hi).1; omega)
        obtain ⟨g, c7, rfl⟩ := ownF hown7 (by omega)
        have hgw := (hown7.lt g rfl).1
        have hst0 : W.map txV ++ [.string ⟨#[]⟩] = (W.take m ++ [] :: W.drop m).map txV := by
          rw [← Hm.out, List.take_length, List.drop_length]; simp [txV]
        rw [hst0] at hown7
        clear hst0 hown hso hao hg7 hkA
        go_wp2_with fail
        go_loopg [7] (m - t) (fun q i wx => ∃ (K : Nat) (y : Tx), t ≤ K ∧ K ≤ m ∧ q = K - t ∧ i = .int .i64 (K : Int) ∧ wx.ownsRow w.heap.size 9 1 (.slice (some ⟨g, 0, none⟩) (m + 1) c7) (m + 1) ((W.take K ++ y :: W.drop K).map txV) ∧ Keeps (fun k => k = g) w7 wx)
        case atStart => exact ⟨m, [], by omega, Nat.le_refl _, rfl, by go_num, hown7, Keeps.refl _ _⟩
        case round =>
          clear hown7
          obtain ⟨K, y, hK1, hK2, hq, rfl, hor, hkx⟩ := hrel
          have Hq3 := Lib.hid hq
          clear hq
          obtain ⟨ar, cr, hre, hsr, _⟩ := Sl.ofOwn hor
          obtain ⟨rfl, rfl⟩ : some ⟨g, 0, none⟩ = ar ∧ c7 = cr := by
            simp only [Value.slice.injEq, true_and] at hre
            exact ⟨hre.1, hre.2⟩
          have hixK := hsr.ix (P := Tryz.prog) Tryz.underlying64 (by kernel_rfl) (show K < m + 1 by omega) .i64
          have hcmK := hsr.at_ (show K < m + 1 by omega)
          have hfmK := hor.frozenAt K
          have htl : (W.take K).length = K := by rw [List.length_take, Hm.out]; omega
          have hgK : ((W.take K ++ y :: W.drop K).map txV).getD K undef = .string ⟨y.toArray⟩ := getD_mid _ _ _ _ htl
          rw [hgK] at hcmK
          simp only [Option.getD_some, Addr.add_lit, Nat.zero_add] at hixK hcmK
          clear hre hgK
          by_cases hKt : t < K
          · have d1 : decide ((t : Int) < (K : Int)) = true := by simp; omega
            have hK1' : K - 1 < W.length := by rw [Hm.out]; omega
            have hixJ := hsr.ixz (P := Tryz.prog) Tryz.underlying64 (by kernel_rfl) ((K : Int) - 1) (i := K - 1) (by omega) (show K - 1 < m + 1 by omega) .i64
            have hcmJ := hsr.at_ (show K - 1 < m + 1 by omega)
            obtain ⟨z, hz⟩ : ∃ z, z = W[K - 1] := ⟨_, rfl⟩
            have hgJ : ((W.take K ++ y :: W.drop K).map txV).getD (K - 1) undef = .string ⟨z.toArray⟩ := by rw [hz]; exact getD_pre _ _ _ _ (by omega) hK1'
            rw [hgJ] at hcmJ
            simp only [Option.getD_some, Addr.add_lit, Nat.zero_add] at hixJ hcmJ
            have hst := (hor.stored K (.string ⟨z.toArray⟩)).1
            have hse : ((W.take K ++ y :: W.drop K).map txV).set K (.string ⟨z.toArray⟩) = (W.take (K - 1) ++ z :: W.drop (K - 1)).map txV := by
              have e0 : (Value.string ⟨z.toArray⟩) = txV z := rfl
              rw [e0, ← List.map_set, set_mid _ _ _ _ _ htl]
              congr 1
              have e1 : W.take K = W.take (K - 1) ++ [z] := by rw [hz, ← List.take_succ_eq_append_getElem hK1', show K - 1 + 1 = K by omega]
              have e2 : W.drop (K - 1) = z :: W.drop K := by rw [hz, List.drop_eq_getElem_cons hK1', show K - 1 + 1 = K by omega]
              rw [e1, e2]; simp
            rw [hse] at hst
            have Hst := Lib.hid hst
            clear hst hse hgJ hz htl hsr
            go_wp2_with fail
            go_roundg (K - 1 - t)
            case measure => have := Hq3.out; omega
            case rel => exact ⟨K - 1, z, by omega, by omega, rfl, by go_num, Hst.out, hkx.setCell (p := ⟨g, K, none⟩) (fun _ => rfl) _⟩
          · obtain rfl : t = K := by omega
            have hst := (hor.stored t (.string ⟨x.toArray⟩)).1
            have hse : ((W.take t ++ y :: W.drop t).map txV).set t (.string ⟨x.toArray⟩) = (insW x W).map txV := by
              have e0 : (Value.string ⟨x.toArray⟩) = txV x := rfl
              rw [e0, ← List.map_set, set_mid _ _ _ _ _ htl, Hins.out]
            rw [hse] at hst
            have Hst := Lib.hid hst
            clear hst hse htl hsr
            have hilen : (insW x W).length = m + 1 := by rw [Hins.out]; simp; have := Hm.out; omega
            have Hil := Lib.hid hilen
            clear hilen
            go_wp2_with fail
            go_roundg (n - (k + 1))
            case measure => have := Hq.out; omega
            case rel => exact ⟨k + 1, m + 1, insW x W, by omega, rfl, by go_num, Lib.hid HWx.out.symm, Hil, by omega, Hst.out, (hk7.trans hkx (fun i hi h => by omega)).setCell (p := ⟨g, t, none⟩) (fun h => absurd h (by simp; omega)) _⟩
      obtain rfl : m = t := by omega
      have hins := hins Ht.out (fun h => absurd h (by rw [Hm.out]; omega))
      have hne : ¬ W[m]? = some x := by rw [List.getElem?_eq_none (by rw [Hm.out]; omega)]; simp
      clear htm
      have hins2 : insW x W = W.take m ++ x :: W.drop m := by rw [hins, if_neg hne]
      have Hins := Lib.hid hins2
      clear hins hne hins2
      have hkA : Keeps No wr (wr.alloc (.cells #[.string ⟨#[]⟩] 9)) := (Keeps.refl No _).alloc _
      have hzr := hkr.size
      go_wp2_with (at_builtin; go_loud (refine app_own rfl (.tmp 40) (.tmp 41) 64 rfl w.heap.size 9 (.string ByteArray.empty) 16 Tryz.underlying64 str_infoQ rfl (by decide) _ m (W.map txV) rfl (hkA.own hown (fun _ _ => not_No _)) _ 1 1 [.string ⟨#[]⟩] rfl (Sl.one _ _ _) ?h1 ?hb ?hB ?_))
      case h1 => intro u hu; simp at hu; subst hu; rfl
      case hb => omega
      case hB => simp; omega
      intro v7 w7 hown7 hg7
      have hk7 : Keeps No w w7 := (hkr.transNo hkA).grown hg7 (fun i hi hlt2 => by have := (hown.lt i hi).1; omega)
      obtain ⟨g, c7, rfl⟩ := ownF hown7 (by omega)
      have hgw := (hown7.lt g rfl).1
      have hst0 : W.map txV ++ [.string ⟨#[]⟩] = (W.take m ++ [] :: W.drop m).map txV := by
        rw [← Hm.out, List.take_length, List.drop_length]; simp [txV]
      rw [hst0] at hown7
      clear hst0 hown hso hao hg7 hkA
      go_wp2_with fail
      go_loopg [7] (m - m) (fun q i wx => ∃ (K : Nat) (y : Tx), m ≤ K ∧ K ≤ m ∧ q = K - m ∧ i = .int .i64 (K : Int) ∧ wx.ownsRow w.heap.size 9 1 (.slice (some ⟨g, 0, none⟩) (m + 1) c7) (m + 1) ((W.take K ++ y :: W.drop K).map txV) ∧ Keeps (fun k => k = g) w7 wx)
      case atStart => exact ⟨m, [], by omega, Nat.le_refl _, rfl, by go_num, hown7, Keeps.refl _ _⟩
      case round =>
        clear hown7
        obtain ⟨K, y, hK1, hK2, hq, rfl, hor, hkx⟩ := hrel
        have Hq3 := Lib.hid hq
        clear hq
        obtain ⟨ar, cr, hre, hsr, _⟩ := Sl.ofOwn hor
        obtain ⟨rfl, rfl⟩ : some ⟨g, 0, none⟩ = ar ∧ c7 = cr := by
          simp only [Value.slice.injEq, true_and] at hre
          exact ⟨hre.1, hre.2⟩
        have hixK := hsr.ix (P := Tryz.prog) Tryz.underlying64 (by kernel_rfl) (show K < m + 1 by omega) .i64
        have hcmK := hsr.at_ (show K < m + 1 by omega)
        have hfmK := hor.frozenAt K
        have htl : (W.take K).length = K := by rw [List.length_take, Hm.out]; omega
        have hgK : ((W.take K ++ y :: W.drop K).map txV).getD K undef = .string ⟨y.toArray⟩ := getD_mid _ _ _ _ htl
        rw [hgK] at hcmK
        simp only [Option.getD_some, Addr.add_lit, Nat.zero_add] at hixK hcmK
        clear hre hgK
        obtain rfl : m = K := by omega
        have hst := (hor.stored m (.string ⟨x.toArray⟩)).1
        have hse : ((W.take m ++ y :: W.drop m).map txV).set m (.string ⟨x.toArray⟩) = (insW x W).map txV := by
          have e0 : (Value.string ⟨x.toArray⟩) = txV x := rfl
          rw [e0, ← List.map_set, set_mid _ _ _ _ _ htl, Hins.out]
        rw [hse] at hst
        have Hst := Lib.hid hst
        clear hst hse htl hsr
        have hilen : (insW x W).length = m + 1 := by rw [Hins.out]; simp; have := Hm.out; omega
        have Hil := Lib.hid hilen
        clear hilen
        go_wp2_with fail
        go_roundg (n - (k + 1))
        case measure => have := Hq.out; omega
        case rel => exact ⟨k + 1, m + 1, insW x W, by omega, rfl, by go_num, Lib.hid HWx.out.symm, Hil, by omega, Hst.out, (hk7.trans hkx (fun i hi h => by omega)).setCell (p := ⟨g, m, none⟩) (fun h => absurd h (by simp; omega)) _⟩
set_option maxHeartbeats 4000000 in
theorem rput13_any (a : Option Addr) (n c : Nat) (L : List Tx) (w : World) (hs : Sl w a n c (L.map txV)) (hn : n ≤ 1000) (hL : ∀ x ∈ L, x.length ≤ 100000) :
    Calls Tryz.prog 65 #[.slice a n c] w fun e w' => ∃ v, e = .returned v ∧ w'.ownsRow w.heap.size 5 1 v (dputL L).length ((dputL L).map byteV) ∧ Keeps No w w' ∧ (dputL L).length ≤ 1000000000 := by
  have hlen : L.length = n := by simpa using hs.len
  have Hlen := Lib.hid hlen
  have hwl := wordsL_len L
  have hWm := fun x => wordsL_mem L x
  have hcw := rwords_any a n c L w hs hn
  obtain ⟨W, hW⟩ : ∃ W, W = wordsL L := ⟨_, rfl⟩
  rw [← hW] at hwl hWm hcw
  have hWL : ∀ x ∈ W, x.length ≤ 100000 := fun x hx => hL x ((hWm x).1 hx)
  have hIn := atW_ints W L (by omega)
  obtain ⟨R, hR⟩ : ∃ R, dputL L = R := ⟨_, rfl⟩
  rw [hR]
  have hR2 : R = headW W ++ bitsPut (atW W L) := by rw [← hR, hW]; rfl
  have HR := Lib.hid hR2
  have HW := Lib.hid hW
  obtain ⟨m, hm⟩ : ∃ m, W.length = m := ⟨_, rfl⟩
  rw [hm] at hcw
  have Hm := Lib.hid hm
  have hmn : m ≤ 1000 := by omega
  have HwL := Lib.hid hWL
  have HWm := Lib.hid hWm
  have HIn := Lib.hid hIn
  clear hlen hR hR2 hW hm hWL hWm hIn hwl
  go_enter Tryz.func65, Tryz.ntmps65
  go_wp2_with fail
  refine hcw.mono ?_
  clear hcw
  rintro e w3 ⟨v3, rfl, hown3, hk03⟩
  obtain ⟨a3, c3, rfl, hs3, _⟩ := Sl.ofOwn hown3
  clear hown3
  have hz03 := hk03.size
  go_wp2_with fail
  refine (refNat_any m w3 (by omega)).mono ?_
  rintro e w4 ⟨v4, rfl, hown4, hk4⟩
  have hk04 := hk03.transNo hk4
  have hm10 := nat7_len64 m (by omega)
  obtain ⟨a4, c4, rfl, _, _⟩ := Sl.ofOwn hown4
  go_wp2_with fail
  go_loopg [19, 4] m (fun q i bv wr => ∃ (k : Nat) (b : List UInt8), k ≤ m ∧ q = m - k ∧ i = .int .i64 (k : Int) ∧ Hid (b = nat7 m ++ encW (W.take k)) ∧ b.length ≤ 10 + k * 100020 ∧ wr.ownsRow w3.heap.size 5 1 bv b.length (b.map byteV) ∧ Keeps No w3 wr)
  case atStart => exact ⟨0, nat7 m, Nat.zero_le _, rfl, rfl, Lib.hid (by simp [encW]), by omega, hown4, hk4⟩
  case round =>
    clear hown4
    obtain ⟨k, b, hk, hq, rfl, Hb, hbl, hown, hkr⟩ := hrel
    have Hq := Lib.hid hq
    clear hq
    have hown' := hown
    obtain ⟨ab, cb, rfl, hsb, _⟩ := Sl.ofOwn hown'
    clear hown'
    by_cases hlt : k < m
    · have hkW : k < W.length := by rw [Hm.out]; exact hlt
      have hix := hs3.ix (P := Tryz.prog) Tryz.underlying64 (by kernel_rfl) hlt .i64
      have hcm := (hs3.kept hkr).at_ hlt
      obtain ⟨x, hx⟩ : ∃ x, x = W[k] := ⟨_, rfl⟩
      have hbv : (W.map txV).getD k undef = .string ⟨x.toArray⟩ := by rw [hx]; simp [hkW, txV]
      rw [hbv] at hcm
      have hxl : x.length ≤ 100000 := HwL.out x (by rw [hx]; exact List.getElem_mem hkW)
      have hx10 := nat7_len64 x.length (by omega)
      have hcall := refNat_any x.length wr (by omega)
      have hkm : k * 100020 ≤ m * 100020 := Nat.mul_le_mul_right _ hk
      have Hx := Lib.hid hx
      clear hx hbv
      go_wp2_with fail
      refine hcall.mono ?_
      clear hcall
      rintro e w5 ⟨v5, rfl, hown5, hk5⟩
      obtain ⟨a5, c5, rfl, hs5, _⟩ := Sl.ofOwn hown5
      have hzr := (hkr.transNo hk5).size
      have hownb5 := hk5.own hown (fun _ _ => not_No _)
      clear hown5
      go_wp2_with (at_builtin; refine app_own rfl (.tmp 23) (.tmp 27) 22 rfl w3.heap.size 5 (.int .u8 0) 1 Tryz.underlying22 byte_infoX rfl (by decide) _ b.length (b.map byteV) rfl hownb5 a5 (nat7 x.length).length c5 ((nat7 x.length).map byteV) rfl hs5 ?h1 ?hb ?hB ?_)
      case h1 => exact byteV_one _
      case hb => omega
      case hB => exact hzr
      intro v6 w6 hown6 hg6
      have hk6 : Keeps No w3 w6 := (hkr.transNo hk5).grown hg6 (fun i hi hlt2 => by have := (hownb5.lt i hi).1; omega)
      have hz6 := hk6.size
      have hsz : (⟨x.toArray⟩ : ByteArray).size = x.length := by simp [ByteArray.size]
      obtain ⟨a6, c6, rfl, _, _⟩ := Sl.ofOwn hown6
      go_wp2_with (at_builtin; refine app_str rfl (.tmp 28) (.tmp 29) 22 9 rfl w3.heap.size 5 Tryz.underlying22 Tryz.underlying9 byte_infoX _ (b.length + (nat7 x.length).length) _ rfl hown6 ⟨x.toArray⟩ rfl ?hb ?hB ?_)
      case hb => rw [hsz]; omega
      case hB => exact hz6
      intro v7 w7 hown7 hg7
      have hk7 : Keeps No w3 w7 := hk6.grown hg7 (fun i hi hlt2 => by have := (hown6.lt i hi).1; omega)
      try rw [hsz] at hown7
      clear hown6 hg6 hg7 hownb5
      go_wp2_with fail
      go_roundg (m - (k + 1))
      case measure => have := Hq.out; omega
      case rel =>
        refine ⟨k + 1, b ++ nat7 x.length ++ x, by omega, rfl, by go_num, Lib.hid ?_, ?_, ?_, hk7⟩
        · rw [Hb.out, List.take_succ_eq_append_getElem hkW, ← Hx.out, encW_snoc]; simp
        · simp only [List.length_append]; omega
        · simpa [Nat.add_assoc] using hown7
    obtain rfl : m = k := by omega
    have hbW : b = headW W := by rw [Hb.out, ← Hm.out, List.take_length]; rfl
    have HbW := Lib.hid hbW
    clear hbW Hb
    have hk0r := hk03.transNo hkr
    have hs3r := hs3.kept hkr
    have hzr := hk0r.size
    clear hkr
    have hown := own_le (base' := w.heap.size) hown hz03
    generalize wr = wa at hown hk0r hs3r hzr hsb ⊢
    go_wp2_with fail
    go_loopg [34, 7] n (fun q i av wx => ∃ k : Nat, k ≤ n ∧ q = n - k ∧ i = .int .i64 (k : Int) ∧ wx.ownsRow wa.heap.size 3 1 av k ((atW W (L.take k)).map intV) ∧ Keeps No wa wx)
    case atStart => exact ⟨0, Nat.zero_le _, rfl, rfl, World.ownsRow_nil _ _ _ _, Keeps.refl _ _⟩
    case round =>
      obtain ⟨k, hk, hq, rfl, howa, hkx⟩ := hrel
      have Hq := Lib.hid hq
      clear hq
      have howa' := howa
      obtain ⟨aa, ca, rfl, hsa, _⟩ := Sl.ofOwn howa'
      clear howa'
      by_cases hlt : k < n
      · have hkL : k < L.length := by rw [Hlen.out]; exact hlt
        have hix := hs.ix (P := Tryz.prog) Tryz.underlying64 (by kernel_rfl) hlt .i64
        have hk0x := hk0r.transNo hkx
        have hcm := (hs.kept hk0x).at_ hlt
        obtain ⟨x, hx⟩ : ∃ x, x = L[k] := ⟨_, rfl⟩
        have hbv : (L.map txV).getD k undef = .string ⟨x.toArray⟩ := by rw [hx]; simp [hkL, txV]
        rw [hbv] at hcm
        have hxW : x ∈ W := (HWm.out x).2 (by rw [hx]; exact List.getElem_mem hkL)
        have hs3x := hs3r.kept hkx
        have hil : W.idxOf x < W.length := List.idxOf_lt_length_of_mem hxW
        have hat : W[W.idxOf x] = x := List.getElem_idxOf hil
        have hbf : ∀ j (h : j < W.length), j < W.idxOf x → W[j] ≠ x := fun j h hj e => by
          have := List.not_of_lt_findIdx (p := (· == x)) (xs := W) (i := j) hj
          simp [e] at this
        generalize hI : W.idxOf x = I at hil hbf
        have hat : W[I] = x := by subst hI; exact hat
        have HI := Lib.hid hI
        have Hx := Lib.hid hx
        have Hat := Lib.hid hat
        have Hbf := Lib.hid hbf
        have hmI : I < m := by rw [Hm.out] at hil; exact hil
        clear hI hx hbv hxW hat hbf
        go_wp2_with fail
        have hkx' := hkx
        generalize wr = wb at hkx hkx' howa hk0x hcm hsa hs3x ⊢
        go_loopg [10] (I + 1) (fun q i wy => ∃ t : Nat, t ≤ I ∧ q = I + 1 - t ∧ i = .int .i64 (t : Int) ∧ wy = wb)
        case atStart => exact ⟨0, by omega, rfl, rfl, rfl⟩
        case round =>
          obtain ⟨t, ht, hq, rfl, hwy⟩ := hrel
          have Hq3 := Lib.hid hq
          clear hq
          subst hwy
          have htm : t < m := by omega
          have htW : t < W.length := by rw [Hm.out]; exact htm
          have hix3 := hs3x.ix (P := Tryz.prog) Tryz.underlying64 (by kernel_rfl) htm .i64
          have hcm3 := hs3x.at_ htm
          obtain ⟨u, hu⟩ : ∃ u, u = W[t] := ⟨_, rfl⟩
          have hbu : (W.map txV).getD t undef = .string ⟨u.toArray⟩ := by rw [hu]; simp [htW, txV]
          rw [hbu] at hcm3
          by_cases htI : t < I
          · have q3 : (u == x) = false := by rw [beq_eq_false_iff_ne, hu]; exact Hbf.out t htW htI
            clear hu hbu
            go_wp2_with fail
            go_roundg (I + 1 - (t + 1))
            case measure => have := Hq3.out; omega
            case rel => exact ⟨t + 1, by omega, rfl, by go_num, rfl⟩
          obtain rfl : t = I := by omega
          have q3 : (u == x) = true := by rw [beq_iff_eq, hu]; exact Hat.out
          clear hu hbu
          have hkA : Keeps No wr (wr.alloc (.cells #[.int .i64 (t : Int)] 3)) := (Keeps.refl No _).alloc _
          have hzx := hkx.size
          go_wp2_with (at_builtin; go_loud (refine app_own rfl (.tmp 46) (.tmp 48) 63 rfl wa.heap.size 3 (.int .i64 0) 8 Tryz.underlying63 int_infoX rfl (by decide) _ k ((atW W (L.take k)).map intV) rfl (hkA.own howa (fun _ _ => not_No _)) _ 1 1 [.int .i64 (t : Int)] rfl (Sl.one _ _ _) ?h1 ?hb ?hB ?_))
          case h1 => intro u hu; simp at hu; subst hu; rfl
          case hb => omega
          case hB => simp; omega
          intro v7 w7 hown7 hg7
          have hk7 : Keeps No wa w7 := (hkx.transNo hkA).grown hg7 (fun i hi hlt2 => by have := (howa.lt i hi).1; omega)
          go_wp2_with fail
          go_roundg (n - (k + 1))
          case measure => have := Hq.out; omega
          case rel =>
            refine ⟨k + 1, by omega, rfl, by go_num, ?_, hk7⟩
            have e1 : (atW W (L.take (k + 1))).map intV = (atW W (L.take k)).map intV ++ [.int .i64 (t : Int)] := by
              rw [List.take_succ_eq_append_getElem hkL, ← Hx.out]
              unfold atW
              simp [intV, HI.out]
            rw [e1]
            exact hown7
      · obtain rfl : k = n := by omega
        rw [show L.take k = L from by rw [← Hlen.out, List.take_length]] at hsa howa
        have hcall := rbput_any aa k ca (atW W L) _ hsa HIn.out (by omega)
        have hownb := hkx.own hown (fun _ _ => not_No _)
        go_wp2_with fail
        refine hcall.mono ?_
        rintro e w6 ⟨a6, m6, c6, rfl, hs6, hm6, hk6⟩
        clear hcall
        have hownb6 := hk6.own hownb (fun _ _ => not_No _)
        have hzz := ((hk0r.transNo hkx).transNo hk6).size
        have hbb : b.length ≤ 10 + m * 100020 := hbl
        have hm6l : (bitsPut (atW W L)).length = m6 := by simpa using hs6.len
        have Hm6l := Lib.hid hm6l
        clear hm6l
        have hm10020 : m * 100020 ≤ 1000 * 100020 := Nat.mul_le_mul_right _ hmn
        go_wp2_with (at_builtin; refine app_own rfl _ _ 22 rfl w.heap.size 5 (.int .u8 0) 1 Tryz.underlying22 byte_infoX rfl (by decide) _ b.length (b.map byteV) rfl hownb6 a6 m6 c6 ((bitsPut (atW W L)).map byteV) rfl hs6 ?h1 ?hb ?hB ?_)
        case h1 => exact byteV_one _
        case hb => omega
        case hB => exact hzz
        intro v7 w7 hown7 hg7
        have hk7 : Keeps No w w7 := ((hk0r.transNo hkx).transNo hk6).grown hg7 (fun i hi hlt2 => by have := (hown.lt i hi).1; omega)
        go_wp2_with fail
        go_ret
        have hRl : R.length = b.length + m6 := by rw [HR.out, ← HbW.out, List.length_append, Hm6l.out]
        refine ⟨v7, rfl, ?_, hk7, by omega⟩
        rw [hRl, HR.out, ← HbW.out, List.map_append]
        exact hown7
end Go.Proofs.YthbipcjgpocpaaaGreat
