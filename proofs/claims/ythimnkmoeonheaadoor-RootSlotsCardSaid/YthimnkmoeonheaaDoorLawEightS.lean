/- The walk of RootSlots. -/
import Derived.Test.YthimnkmoeonheaaDoorLawEightF
import Derived.Deep.QuietTactic
namespace Go.Proofs.YthimnkmoeonheaaDoor
open Go.RowKit
set_option linter.unusedSimpArgs false
set_option linter.unusedVariables false
set_option maxRecDepth 100000

abbrev BS8 := Option Addr × Nat × Nat × List UInt8
def bs8V (x : BS8) : Value := .slice x.1 x.2.1 x.2.2.1

theorem read_put (s : RS) (hl : s.D.lim = none) (t : Nat) (ht : t < s.D.K.length) (hne : (s.ver + 1) % 2 ≠ t) : (⟨keepW s.D.K (s.D.W ++ [rtW s]), [], none⟩ : DS).read (t : Int) = s.D.read (t : Int) := by
  unfold DS.read
  rw [if_pos (rightD_ok _ _ _ (by omega) (by show (t : Int) < ((keepW s.D.K (s.D.W ++ [rtW s])).length : Int); rw [keepW_len]; omega) (by omega)), if_pos (rightD_ok _ _ _ (by omega) (by omega) (by omega)), hl]
  simp only [reduceCtorEq, if_false, Int.toNat_natCast]
  unfold DS.at_
  show (lastW [] t ((keepW s.D.K (s.D.W ++ [rtW s])).getD t []), (0 : Int)) = _
  rw [keepW_get _ _ _ ht, lastW_snoc, if_neg (show ¬ (rtW s).1 = t from hne)]
  rfl
theorem take_full (b : List UInt8) : (full b).take b.length = b := by unfold full; simp

/-- What the loop over the bodies keeps. -/
structure SlotS (s : RS) (k : Nat) (laid : List UInt8) : Prop where
  ver : s.ver = k
  mark : s.mark ≤ s.A.length
  al : s.A.length = k
  len : s.D.K.length = 5
  lim : s.D.lim = none
  good : ∃ now, Good8 s now
  safe : Safe8 s
  rd : ∀ t : Nat, 2 ≤ t → t < 5 → s.D.read (t : Int) = (full laid, 0)
  wl : s.D.W.length = if k = 0 then 3 else 0
theorem SlotS.put {s : RS} {k : Nat} {laid : List UInt8} (h : SlotS s k laid) (plain : List UInt8) (hp : plain.length ≤ 65536) :
    (rput s [] plain).2 = 0 ∧ SlotS (rput s [] plain).1 (k + 1) laid ∧ Good8 (rput s [] plain).1 plain ∧ (rput s [] plain).1.D.read ((k % 2 : Nat) : Int) = s.D.read ((k % 2 : Nat) : Int) := by
  have h2 : 2 ≤ s.D.K.length := by rw [h.len]; omega
  have hr := rput_none s plain h2 hp h.lim
  have hv := h.ver
  rw [hr]
  refine ⟨rfl, ⟨by show s.ver + 1 = k + 1; omega, by simp, by simp [h.al], by show (keepW _ _).length = 5; rw [keepW_len]; exact h.len, rfl, ⟨plain, Good8.new _ _ _⟩, safe_new s _ _ h2, fun t h1 h2 => ?_, by simp⟩, Good8.new _ _ _, ?_⟩
  · exact (read_put s h.lim t (by rw [h.len]; exact h2) (by omega)).trans (h.rd t h1 h2)
  · exact read_put s h.lim (k % 2) (by omega) (by omega)
theorem SlotS.get {s : RS} {k : Nat} {laid now : List UInt8} (h : SlotS s (k + 1) laid) (hk : k ≤ 20) (hg : Good8 s now) : rget s [] = (now, 0) :=
  rget_safe s now hg h.safe (by rw [h.len]; omega) (by rw [h.ver]; omega) (by rw [h.lim]; simp) (by have := h.mark; have := h.al; omega)

structure LaidS (D : DS) (j : Nat) (laid : List UInt8) : Prop where
  len : D.K.length = 5
  lim : D.lim = none
  wl : D.W.length = j - 2
  rd : ∀ t : Nat, 2 ≤ t → t < j → D.read (t : Int) = (full laid, 0)
theorem LaidS.write {D : DS} {j : Nat} {laid : List UInt8} (h : LaidS D j laid) (h2 : 2 ≤ j) (h5 : j < 5) (hl : laid.length ≤ 16) : LaidS (D.write (j : Int) laid).1 (j + 1) laid := by
  obtain ⟨K, W, lim⟩ := D
  obtain ⟨h1, h3, h4, h6⟩ := h
  simp only at h1 h3 h4
  subst h3
  have hw : (⟨K, W, none⟩ : DS).write (j : Int) laid = (⟨K, W ++ [(j, full laid)], none⟩, 0) := by
    unfold DS.write
    rw [rightD_ok _ _ _ (by omega) (by show (j : Int) < (K.length : Int); omega) hl]
    simp [callD]
  rw [hw]
  refine ⟨h1, rfl, by simp; omega, fun t ht1 ht2 => ?_⟩
  have := read_snoc K W j (full laid) t (by omega)
  show (⟨K, W ++ [(j, full laid)], none⟩ : DS).read (t : Int) = _
  rw [this]
  by_cases e : j = t
  · rw [if_pos e]
  · rw [if_neg e]; exact h6 t ht1 (by omega)

set_option maxHeartbeats 8000000 in
theorem rootSlots_any (a0 : Option Addr) (n0 c0 : Nat) (P : List BS8) (a1 : Option Addr) (n1 c1 : Nat) (L1 : List UInt8) (w : World) (hs0 : Sl w a0 n0 c0 (P.map bs8V)) (hP : ∀ x ∈ P, Sl w x.1 x.2.1 x.2.2.1 (x.2.2.2.map byteV)) (hs1 : Sl w a1 n1 c1 (L1.map byteV)) :
    Calls Tryd.prog 9 #[.slice a0 n0 c0, .slice a1 n1 c1] w fun e w' => e = .returned (.bool true) ∧ Keeps No w w' := by
  have hlen : P.length = n0 := by simpa using hs0.len
  have Hlen := Lib.hid hlen
  have hlen1 : L1.length = n1 := by simpa using hs1.len
  have Hlen1 := Lib.hid hlen1
  have HP := Lib.hid hP
  have hwm := hs0.max
  have hwl := hs0.le
  unfold maxLen at hwm
  clear hlen hlen1 hP
  go_enter Tryd.func9, Tryd.ntmps9
  go_wp2_with fail
  refine (first08_any _).mono ?_
  rintro e w1 ⟨rfl, hk1⟩
  by_cases h16 : 16 < n1
  · have d16 : decide ((16 : Int) < (n1 : Int)) = true := by simp; omega
    go_wp2_with fail
    go_ret
    exact ⟨rfl, hk1⟩
  have d16 : decide ((16 : Int) < (n1 : Int)) = false := by simp; omega
  go_wp2_with fail
  refine (d_new 5 w1 (by omega) (by omega)).mono ?_
  rintro e w2 ⟨bd, Fd, rfl, hd2, hF, hk2⟩
  go_wp2_with fail
  refine (f_new w2).mono ?_
  rintro e w3 ⟨bv, Fv, rfl, hv3, hF3, hk3⟩
  obtain ⟨F, hT, hFw⟩ := rtnew 5 w1 bd bv Fd Fv w2 w3 _ hd2 hF hv3 hF3 hk2 hk3
  have hkC : Keeps No w3 (w3.alloc (.cells #[.int .i64 0, .int .i64 0] 55)) := (Keeps.refl No w3).alloc _
  have hk04 := ((hk1.transNo hk2).transNo hk3).transNo hkC
  have hz1 := hk1.size
  have hL0 : LaidS ⟨List.replicate 5 (full []), [], none⟩ 2 L1 := ⟨rfl, rfl, rfl, fun t h1 h2 => by omega⟩
  generalize (⟨List.replicate 5 (full []), [], none⟩ : DS) = D0 at hT hL0
  clear hd2 hF hv3 hF3 hk2 hk3 hkC
  go_wp2_with fail
  generalize (w3.alloc (.cells #[.int .i64 0, .int .i64 0] 55)) = w4 at hT hk04 ⊢
  generalize w3.heap.size = bc at hT hFw ⊢
  have hF0 : ∀ i, FC F bc i → w.heap.size ≤ i := fun i hi => Nat.le_trans hz1 (hFw i hi)
  clear hFw
  go_loopg [9] 3 (fun q i wr => ∃ (j : Nat) (D : DS) (F : Nat → Prop), 2 ≤ j ∧ j ≤ 5 ∧ q = 5 - j ∧ i = .int .i64 (j : Int) ∧ LaidS D j L1 ∧ RT wr bd bv bc F (st0 D) [] ∧ (∀ i, FC F bc i → w.heap.size ≤ i) ∧ Keeps No w wr)
  case atStart => exact ⟨2, D0, F, by omega, by omega, rfl, rfl, hL0, hT, hF0, hk04⟩
  case round =>
    clear hL0 hT hF0 hk04
    obtain ⟨j, D, F, hj2, hj5, hq, rfl, hLS, hT, hFw, hkr⟩ := hrel
    have Hq := Lib.hid hq
    clear hq
    by_cases hlt : j < 5
    · have d5 : decide ((j : Int) < 5) = true := by simp; omega
      have hin : 0 < n1 → ¬ FC F bc (a1.getD default).block := fun h0 h => by have := hs1.lt h0; have := hFw _ h; omega
      have hcall := rt_write bd bv bc F (st0 D) [] wr (j : Int) a1 n1 c1 L1 hT (hs1.kept hkr) (by omega) hin (by show D.W.length ≤ _; have := hLS.wl; omega)
      have hLS' := hLS.write hj2 hlt (by rw [Hlen1.out]; omega)
      go_wp2_with fail
      refine hcall.mono ?_
      rintro e w5 ⟨rfl, F5, hT5, hs5⟩
      clear hcall
      go_wp2_with fail
      go_roundg (5 - (j + 1))
      case measure => have := Hq.out; omega
      case rel => exact ⟨j + 1, _, F5, by omega, by omega, rfl, by go_num, hLS', hT5, fun i hi => (hs5.fresh i hi).elim (hFw i) (fun h => by have := hkr.size; omega), hkr.trans hs5.keeps (fun i hi h => absurd (hFw i h) (by omega))⟩
    obtain rfl : j = 5 := by omega
    have hS0 : SlotS (st0 D) 0 L1 := ⟨rfl, Nat.le_refl _, rfl, hLS.len, hLS.lim, ⟨[], good0 _ _⟩, fun h => absurd rfl h, hLS.rd, by show D.W.length = 3; exact hLS.wl⟩
    clear hLS
    go_wp2_with fail
    go_loopg [43] n0 (fun q i wr => ∃ (k : Nat) (s : RS) (F : Nat → Prop), k ≤ n0 ∧ k ≤ 20 ∧ q = n0 - k ∧ i = .int .i64 (k : Int) ∧ SlotS s k L1 ∧ RT wr bd bv bc F s [] ∧ (∀ i, FC F bc i → w.heap.size ≤ i) ∧ Keeps No w wr)
    case atStart => exact ⟨0, _, F, Nat.zero_le _, Nat.zero_le _, rfl, rfl, hS0, hT, hFw, hkr⟩
    case round =>
      clear hS0 hT hFw hkr
      obtain ⟨k, s, F, hk, hk20, hq, rfl, hS, hT, hFw, hkr⟩ := hrel
      have Hq2 := Lib.hid hq
      clear hq
      have hwait : Calls Tryd.prog 41 #[.pointer (some ⟨bd, 0, none⟩)] wr fun e w' => e = .returned (.int .i64 (s.D.W.length : Int)) ∧ wr = w' := by
        obtain ⟨Fd, hd, _⟩ := hT.1.dev
        exact dwaiting_any bd Fd s.D wr hd
      have hwl := hS.wl
      by_cases hlt2 : k < n0
      case neg =>
        by_cases hk0 : k = 0
        · subst hk0
          rw [hwl] at hwait
          obtain rfl : n0 = 0 := by omega
          go_wp2_with fail
          refine hwait.mono ?_
          rintro e w5 ⟨rfl, rfl⟩
          go_wp2_with fail
          go_ret
          exact ⟨rfl, hkr⟩
        · rw [hwl, if_neg hk0] at hwait
          go_wp2_with fail
          refine hwait.mono ?_
          rintro e w5 ⟨rfl, rfl⟩
          go_wp2_with fail
          go_ret
          exact ⟨rfl, hkr⟩
      have hkP : k < P.length := by rw [Hlen.out]; exact hlt2
      have hix := hs0.ix (P := Tryd.prog) Tryd.underlying47 (by kernel_rfl) hlt2 .i64
      have hcm := (hs0.kept hkr).at_ hlt2
      obtain ⟨x, hx⟩ : ∃ x, x = P[k] := ⟨_, rfl⟩
      have hbv : (P.map bs8V).getD k undef = bs8V x := by rw [hx]; simp [hkP]
      have hB := HP.out x (by rw [hx]; exact List.getElem_mem hkP)
      rw [hbv] at hcm
      obtain ⟨aB, nB, cB, pB⟩ := x
      unfold bs8V at hcm
      simp only at hcm hB
      have hlB : pB.length = nB := by simpa using hB.len
      clear hbv hx
      by_cases h20 : 20 ≤ k
      · have d20 : decide ((20 : Int) ≤ (k : Int)) = true := by simp; omega
        rw [hwl, if_neg (by omega)] at hwait
        go_wp2_with fail
        refine hwait.mono ?_
        rintro e w5 ⟨rfl, rfl⟩
        go_wp2_with fail
        go_ret
        exact ⟨rfl, hkr⟩
      have d20 : decide ((20 : Int) ≤ (k : Int)) = false := by simp; omega
      by_cases h500 : 500 < nB
      · have d500 : decide ((500 : Int) < (nB : Int)) = true := by simp; omega
        by_cases hk0 : k = 0
        · subst hk0
          rw [hwl] at hwait
          have hix0 := hs0.ixz (P := Tryd.prog) Tryd.underlying47 (by kernel_rfl) 0 (i := 0) rfl hlt2 .i64
          have hcm0 := hcm
          rw [Addr.add_zero'] at hcm0
          have dn : ((n0 : Int) == 0) = false := by rw [beq_eq_false_iff_ne]; omega
          go_wp2_with fail
          refine hwait.mono ?_
          rintro e w5 ⟨rfl, rfl⟩
          go_wp2_with fail
          go_ret
          exact ⟨rfl, hkr⟩
        · rw [hwl, if_neg hk0] at hwait
          go_wp2_with fail
          refine hwait.mono ?_
          rintro e w5 ⟨rfl, rfl⟩
          go_wp2_with fail
          go_ret
          exact ⟨rfl, hkr⟩
      have d500 : decide ((500 : Int) < (nB : Int)) = false := by simp; omega
      clear hwait hwl
      have hver := rversion_any bc _ _ wr hT.2.1
      rw [hS.ver] at hver
      obtain ⟨t, ht⟩ : ∃ t, t = k % 2 := ⟨_, rfl⟩
      have ht1 : (k : Int) % 2 = (t : Int) := by omega
      have ht2 : (k : Int).tmod 2 = (t : Int) := by rw [Int.tmod_eq_emod_of_nonneg (by omega)]; exact ht1
      have hrd := rt_read bd bv bc F s [] wr (t : Int) hT
      obtain ⟨hp0, hSp, hGp, hRp⟩ := hS.put pB (by omega)
      rw [← ht] at hRp
      have hn1 : ((k : Int) + 1 + 1).tmod 2 = (t : Int) := by rw [Int.tmod_eq_emod_of_nonneg (by omega)]; omega
      have hn2 : ((k : Int) + 1 + 1) % 2 = (t : Int) := by omega
      generalize hW0 : s.D.read (t : Int) = W0 at hrd hRp
      clear ht
      go_wp2_with fail
      refine hver.mono ?_
      rintro e w5 ⟨rfl, rfl⟩
      clear hver
      go_wp2_with fail
      refine hrd.mono ?_
      rintro e w5 ⟨v5, rfl, hown5, hk5⟩
      clear hrd
      obtain ⟨a5, c5, rfl, hs5, hf5⟩ := Sl.ofOwn hown5
      have hT5 := hT.kept hk5
      have hk05 := hkr.transNo hk5
      have hlt5 := hT.lt
      have hcall := rput_any bd bv bc F s [] aB nB cB pB w5 hT5 (by have := hS.al; omega) (by have := hS.wl; split at this <;> omega) (by have := hS.ver; omega) (hB.kept hk05) (by omega)
      unfold RPutPost at hcall
      rw [hp0] at hcall
      have hmb := hSp.mark
      have hab := hSp.al
      have hvb := hSp.ver
      have hgt := hSp.get (by omega) hGp
      generalize rput s [] pB = R at hcall hSp hGp hRp hmb hab hvb hgt
      clear hT hW0 hS hp0
      go_wp2_with fail
      refine hcall.mono ?_
      rintro e w6 ⟨rfl, F6, hT6, hs6⟩
      clear hcall
      have hk06 : Keeps No w w6 := hk05.trans hs6.keeps (fun i hi h => absurd (hFw i h) (by omega))
      have hF6 : ∀ i, FC F6 bc i → w.heap.size ≤ i := fun i hi => (hs6.fresh i hi).elim (hFw i) (fun h => by have := hk05.size; omega)
      have hs5' := hs5.keep hs6.keeps (fun h0 h => by
        obtain ⟨g, e1, e2, e3⟩ := hf5 _ (hs5.isSome h0)
        rw [e1] at h
        have := hlt5 _ h
        simp only at this
        omega)
      have hver := rversion_any bc _ _ w6 hT6.2.1
      rw [hvb] at hver
      go_wp2_with fail
      refine hver.mono ?_
      rintro e w7 ⟨rfl, rfl⟩
      go_wp2_with fail
      refine hver.mono ?_
      rintro e w7 ⟨rfl, rfl⟩
      have hrd := rt_read bd bv bc F6 R.1 [] w6 (t : Int) hT6
      rw [hRp] at hrd
      clear hver
      go_wp2_with fail
      refine hrd.mono ?_
      rintro e w7 ⟨v7, rfl, hown7, hk7⟩
      clear hrd
      obtain ⟨a7, c7, rfl, hs7, _⟩ := Sl.ofOwn hown7
      have hT7 := hT6.kept hk7
      have hk07 := hk06.transNo hk7
      have hcall := rget_any bd bv bc F6 R.1 [] w7 hT7 (by omega) (by omega) (by omega)
      rw [hgt] at hcall
      go_wp2_with fail
      refine hcall.mono ?_
      rintro e w8 ⟨v8, rfl, hk8, hown8⟩
      clear hcall
      obtain ⟨a8, c8, rfl, hs8, _⟩ := Sl.ofOwn hown8
      have hT8 := hT7.kept hk8
      have hk08 := hk07.transNo hk8
      have hst5 := strB ((hs5'.kept hk7).kept hk8)
      have hst7 := strB (hs7.kept hk8)
      have hst8 := strB hs8
      rw [hlB] at hst8
      have hstB := strB (hB.kept hk08)
      clear hs5' hs7 hs8 hown7 hown8 hT6 hT7 hs5 hs6 hown5
      go_wp2_with fail
      go_loopg [18] 3 (fun q i wx => ∃ j : Nat, 2 ≤ j ∧ j ≤ 5 ∧ q = 5 - j ∧ i = .int .i64 (j : Int) ∧ Keeps No w8 wx)
      case atStart => exact ⟨2, by omega, by omega, rfl, rfl, Keeps.refl _ _⟩
      case round =>
        obtain ⟨j, hj2, hj5, hq, rfl, hkx⟩ := hrel
        have Hq3 := Lib.hid hq
        clear hq
        by_cases hlt3 : j < 5
        · have d5 : decide ((j : Int) < 5) = true := by simp; omega
          have hrd := rt_read bd bv bc F6 R.1 [] wr (j : Int) (hT8.kept hkx)
          rw [hSp.rd j hj2 hlt3] at hrd
          have hf16 : (full L1).length = 16 := full_len _ (by rw [Hlen1.out]; omega)
          go_wp2_with fail
          refine hrd.mono ?_
          rintro e w9 ⟨v9, rfl, hown9, hk9⟩
          clear hrd
          rw [hf16] at hown9
          obtain ⟨a9, c9, rfl, hs9, _⟩ := Sl.ofOwn hown9
          obtain ⟨a10, hu1, hu2, hs10, -⟩ := hs9.upto (P := Tryd.prog) (T := 35) Tryd.underlying35 (by kernel_rfl) (k := n1) (by omega) .i64 (n1 : Int) rfl
          rw [← List.map_take] at hs10
          have htk : (full L1).take n1 = L1 := by rw [← Hlen1.out]; exact take_full L1
          rw [htk] at hs10
          have hst10 := fun nq => strB (hs10.kept ((Keeps.refl No w9).drewN nq))
          have hk09 := (hk08.transNo hkx).transNo hk9
          have hst1 := fun nq => strB (hs1.kept (hk09.drewN nq))
          go_wp2_with fail
          go_quiet (fail)
          have hk9q : Keeps No w9 (w9.drewN nq) := (Keeps.refl No w9).drewN nq
          generalize w9.drewN nq = wz at hk9q ⊢
          go_wp2_with fail
          go_roundg (5 - (j + 1))
          case measure => have := Hq3.out; omega
          case rel => exact ⟨j + 1, by omega, by omega, rfl, by go_num, (hkx.transNo hk9).transNo hk9q⟩
        obtain rfl : j = 5 := by omega
        go_wp2_with fail
        go_roundg (n0 - (k + 1))
        case measure => have := Hq2.out; omega
        case rel => exact ⟨k + 1, R.1, F6, by omega, by omega, rfl, by go_num, hSp, hT8.kept hkx, hF6, hk08.transNo hkx⟩
theorem rootSlots_walk (a0 : Option Addr) (n0 c0 : Nat) (P : List BS8) (a1 : Option Addr) (n1 c1 : Nat) (L1 : List UInt8) (w : World) (hs0 : SlK w 1 a0 n0 c0 (P.map fun x => [bs8V x])) (hP : ∀ x ∈ P, Sl w x.1 x.2.1 x.2.2.1 (x.2.2.2.map byteV)) (hs1 : Sl w a1 n1 c1 (L1.map byteV)) (_ : n1 ≤ reachBytes) :
    Calls Tryd.prog 9 #[.slice a0 n0 c0, .slice a1 n1 c1] w fun e w' => e = .returned (.bool true) ∧ Keeps No w w' := rootSlots_any a0 n0 c0 P a1 n1 c1 L1 w hs0.toSl hP hs1
end Go.Proofs.YthimnkmoeonheaaDoor
