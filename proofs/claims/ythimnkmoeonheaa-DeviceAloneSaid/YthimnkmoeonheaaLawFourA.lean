/- The walk of the law DeviceAlone. -/
import Derived.Test.YthimnkmoeonheaaLawFourK
namespace Go.Proofs.Ythimnkmoeonheaa
open Go.RowKit
set_option linter.unusedSimpArgs false
set_option linter.unusedVariables false

theorem crashW_all (K : List (List UInt8)) (W : List WR) (n : Nat) (h : W.length = n) : crashW K (W.zip (List.replicate n true)) = keepW K W := by
  subst h
  induction W generalizing K with
  | nil => rfl
  | cons w t ih => exact ih (K.set w.1 w.2)
theorem bool_infoD : (Try.prog.info? 4).map (fun i => (i.zero, i.size, i.bytes)) = some (some (.bool false), 1, 1) := by kernel_rfl

/-- Two devices, alike, apart from each other. -/
def Twins (B : Nat) (bd be : Nat) (Fd Fe : Nat → Prop) (D : DS) (w : World) : Prop :=
  Dv w bd Fd D ∧ Dv w be Fe D ∧ (∀ i, Fd i → ¬ Fe i) ∧ (∀ i, Fd i → B ≤ i) ∧ (∀ i, Fe i → B ≤ i)
theorem Twins.kept {B bd be : Nat} {Fd Fe : Nat → Prop} {D : DS} {w w' : World} (h : Twins B bd be Fd Fe D w) (k : Keeps No w w') : Twins B bd be Fd Fe D w' :=
  ⟨h.1.kept k, h.2.1.kept k, h.2.2⟩

/-- The script's state: the last block's write stands first; so many wait. -/
structure AloneD (D : DS) (x : List UInt8) (n : Nat) : Prop where
  lim : D.lim = none
  len : D.K.length = 9
  at8 : D.at_ 8 = x
  wl : D.W.length = n
theorem AloneD.write {D : DS} {x : List UInt8} {n : Nat} (h : AloneD D x n) (i : Nat) (hi : i < 8) (p : List UInt8) (hp : p.length ≤ 16) : AloneD (D.write i p).1 x (n + 1) ∧ (D.write i p).2 = 0 := by
  have hl : ¬ D.lim = some 0 := by rw [h.lim]; simp
  have hr : rightD D.K.length i p.length = true := by unfold rightD; rw [h.len]; simp; omega
  unfold DS.write
  rw [if_pos hr, if_neg hl]
  refine ⟨⟨by simp [h.lim, callD], h.len, ?_, by simp [h.wl]⟩, rfl⟩
  unfold DS.at_
  rw [lastW_snoc, if_neg (by simp; omega)]
  exact h.at8
theorem AloneD.read {D : DS} {x : List UInt8} {n : Nat} (h : AloneD D x n) : D.read 8 = (x, 0) := by
  unfold DS.read
  rw [h.len, if_pos (by decide), if_neg (by rw [h.lim]; simp)]
  simp [h.at8]

set_option maxRecDepth 100000 in
set_option maxHeartbeats 8000000 in
theorem deviceAlone_any (a0 : Option Addr) (n0 c0 : Nat) (p : List UInt8) (a1 : Option Addr) (n1 c1 : Nat) (L : List OPD) (w : World)
    (hs0 : Sl w a0 n0 c0 (p.map byteV)) (hn0 : n0 ≤ 140737488351232) (hs1 : SlK w 4 a1 n1 c1 (L.map opdV)) (hL : ∀ o ∈ L, OpdOk w o) :
    Calls Try.prog 4 #[.slice a0 n0 c0, .slice a1 n1 c1] w fun e w' => e = .returned (.bool true) ∧ Keeps No w w' := by
  have hlen : L.length = n1 := by simpa using hs1.len
  have hlen0 : p.length = n0 := by simpa using hs0.len
  have hwm := hs1.max
  have hwl := hs1.le
  unfold maxLen at hwm
  have Hlen := Lib.hid hlen
  have Hlen0 := Lib.hid hlen0
  have HL := Lib.hid hL
  clear hlen hlen0 hL
  go_enter Try.func4, Try.ntmps4
  go_wp2_with fail
  refine (first04_any _).mono ?_
  rintro e w1 ⟨rfl, hk1⟩
  have hz1 := hk1.size
  by_cases h16 : 16 < n0
  · go_wp2_with fail
    go_ret
    exact ⟨rfl, hk1⟩
  go_wp2_with fail
  refine (d_new 9 w1 (by omega) (by omega)).mono ?_
  rintro e w2 ⟨bd, F, rfl, hd2, hF, hk2⟩
  have hk02 := hk1.transNo hk2
  go_wp2_with fail
  refine (d_new 9 w2 (by omega) (by omega)).mono ?_
  rintro e w3 ⟨be, G, rfl, he3, hG, hk3⟩
  have hk03 := hk02.transNo hk3
  have hd3 := hd2.kept hk3
  have hfr : ∀ (G : Nat → Prop), (∀ i, G i → w.heap.size ≤ i) → ∀ (a : Option Addr) (n c : Nat) (xs : List Value), Sl w a n c xs → 0 < n → ¬ G (a.getD default).block := fun G hG a n c xs hs h0 h => by
    have := hs.lt h0
    have := hG _ h
    omega
  have Hfr := Lib.hid hfr
  clear hfr
  have hF0 : ∀ i, F i → w.heap.size ≤ i := fun i h => Nat.le_trans hz1 (hF i h)
  have hG0 : ∀ i, G i → w.heap.size ≤ i := fun i h => Nat.le_trans hk02.size (hG i h)
  have hFG : ∀ i, F i → ¬ G i := fun i hf hg => by have := hd2.lt i hf; have := hG i hg; omega
  have hwr := d_write bd F _ 8 a0 n0 c0 p w3 hd3 (hs0.kept hk03) hn0 (Hfr.out F hF0 _ _ _ _ hs0) (by simp)
  have hwe : (⟨List.replicate 9 (full []), [], none⟩ : DS).write 8 p = (⟨List.replicate 9 (full []), [(8, full p)], none⟩, 0) := by
    unfold DS.write
    rw [if_pos (by unfold rightD; simp; have := Hlen0.out; omega), if_neg (by simp)]
    rfl
  rw [hwe] at hwr
  have Hwe := Lib.hid hwe
  clear hwe
  go_wp2_with fail
  refine hwr.mono ?_
  rintro e w4 ⟨rfl, F4, hd4, hs4⟩
  clear hwr
  have hF4 : ∀ i, F4 i → w.heap.size ≤ i := fun i hi => (hs4.fresh i hi).elim (hF0 i) (fun h => Nat.le_trans hk03.size h)
  have hk04 : Keeps No w w4 := hk03.trans hs4.keeps (fun i hi h => absurd (hF0 i h) (by omega))
  have he4 := he3.keep hs4.keeps (fun i hg hf => hFG i hf hg)
  have hFG4 := hs4.apart hFG he3.lt
  simp only at hd4 ⊢
  have hwr := d_write be G _ 8 a0 n0 c0 p w4 he4 (hs0.kept hk04) hn0 (Hfr.out G hG0 _ _ _ _ hs0) (by simp)
  rw [Hwe.out] at hwr
  go_wp2_with fail
  refine hwr.mono ?_
  rintro e w5 ⟨rfl, G5, he5, hs5⟩
  clear hwr
  have hG5 : ∀ i, G5 i → w.heap.size ≤ i := fun i hi => (hs5.fresh i hi).elim (hG0 i) (fun h => Nat.le_trans hk04.size h)
  have hk05 : Keeps No w w5 := hk04.trans hs5.keeps (fun i hi h => absurd (hG0 i h) (by omega))
  have hd5 := hd4.keep hs5.keeps (fun i hf hg => hFG4 i hf hg)
  have hFG5 : ∀ i, F4 i → ¬ G5 i := fun i hf hg => hs5.apart (fun i hg hf => hFG4 i hf hg) hd4.lt i hg hf
  simp only at he5 ⊢
  have hT5 : Twins w.heap.size bd be F4 G5 ⟨List.replicate 9 (full []), [(8, full p)], none⟩ w5 := ⟨hd5, he5, hFG5, hF4, hG5⟩
  have hA5 : AloneD ⟨List.replicate 9 (full []), [(8, full p)], none⟩ (full p) 1 := ⟨rfl, rfl, rfl, rfl⟩
  clear hd2 hd3 hd4 he3 he4 hs4 hs5 hFG hFG4
  generalize (⟨List.replicate 9 (full []), [(8, full p)], none⟩ : DS) = D5 at hT5 hA5
  go_upto_block 0 with fail
  go_cut [9] (fun s wx => ∃ (n : Nat) (D : DS) (Fd Fe : Nat → Prop), s = .int .i64 (n : Int) ∧ n ≤ 61 ∧ Twins w.heap.size bd be Fd Fe D wx ∧ AloneD D (full p) n ∧ Keeps No w wx)
  case first =>
    go_wp2_with fail
    go_loopg [9, 43] n1 (fun q s i wr => ∃ (j n : Nat) (D : DS) (Fd Fe : Nat → Prop), j ≤ n1 ∧ q = n1 - j ∧ i = .int .i64 (j : Int) ∧ s = .int .i64 (n : Int) ∧ n ≤ 61 ∧ n ≤ j + 1 ∧ Twins w.heap.size bd be Fd Fe D wr ∧ AloneD D (full p) n ∧ Keeps No w wr)
    case atStart => exact ⟨0, 1, _, _, _, Nat.zero_le _, rfl, rfl, rfl, by omega, by omega, hT5, hA5, hk05⟩
    case round =>
      clear hT5 hA5
      obtain ⟨j, n, D, Fd, Fe, hj, hq, rfl, rfl, hn61, hnj, hT, hA, hkr⟩ := hrel
      have Hq := Lib.hid hq
      clear hq
      by_cases hlt : j < n1
      · have hlt' : j < L.length := by rw [Hlen.out]; exact hlt
        have hsr := hs1.kept hkr
        have hix := hsr.ix (P := Try.prog) Try.underlying23 opd_size hlt .i64
        obtain ⟨hld, _⟩ := hsr.load (P := Try.prog) (ty := 33) Try.underlying33 rfl opd_size hlt
        obtain ⟨o, ho⟩ : ∃ o, o = L[j] := ⟨_, rfl⟩
        have hxc : (L.map opdV).getD j [] = opdV o := by rw [ho]; simp [hlt']
        obtain ⟨⟨hB, hBn⟩, hKp, hKn⟩ := HL.out o (by rw [ho]; exact List.getElem_mem hlt')
        obtain ⟨⟨kd, hkd⟩, ⟨iv, hiv⟩, ⟨aB, nB, cB, pB⟩, ⟨aK, nK, cK, pK⟩⟩ := o
        rw [hxc, show (opdV (⟨kd, hkd⟩, ⟨iv, hiv⟩, ⟨aB, nB, cB, pB⟩, ⟨aK, nK, cK, pK⟩)).toArray = #[.int .i64 kd, .int .i64 iv, .slice aB nB cB, .slice aK nK cK] from rfl] at hld
        simp only at hB hBn hKp hKn
        have hlB : pB.length = nB := by simpa using hB.len
        have HlB := Lib.hid hlB
        obtain ⟨t, ht, ht', ht7⟩ := umod kd 2 (by omega)
        obtain ⟨k, hk, hk', hk7⟩ := umod iv 8 (by omega)
        clear hxc ho hlB hsr hkd hiv
        go_upto_region 13 with (refine wpList_loadV (op := ⟨some 47, _, _, _, _, _⟩) rfl 33 (.tmp 46) rfl _ rfl _ hld ?_)
        have hbN := heap_alloc_new wr (.cells #[.int .i64 kd, .int .i64 iv, .slice aB nB cB, .slice aK nK cK] 33)
        have hkN : Keeps No wr (wr.alloc (.cells #[.int .i64 kd, .int .i64 iv, .slice aB nB cB, .slice aK nK cK] 33)) := (Keeps.refl No wr).alloc _
        generalize (wr.alloc (.cells #[.int .i64 kd, .int .i64 iv, .slice aB nB cB, .slice aK nK cK] 33)) = w6 at hbN hkN ⊢
        obtain ⟨x0, x1, x2, x3⟩ := opd_cells hbN
        have hk6 := hkr.transNo hkN
        have hT6 := hT.kept hkN
        clear hld hix
        by_cases h60 : 60 ≤ j
        · have hd60 : decide ((60 : Int) ≤ (j : Int)) = true := by simp; omega
          go_wp2_with fail
          go_meet
          exact ⟨n, D, Fd, Fe, rfl, hn61, hT6, hA, hk6⟩
        have hd60 : decide ((60 : Int) ≤ (j : Int)) = false := by simp; omega
        by_cases hB16 : 16 < nB
        · have hd16 : decide ((16 : Int) < (nB : Int)) = true := by simp; omega
          go_wp2_with fail
          go_meet
          exact ⟨n, D, Fd, Fe, rfl, hn61, hT6, hA, hk6⟩
        have hd16 : decide ((16 : Int) < (nB : Int)) = false := by simp; omega
        go_upto_if 65 with fail
        go_cut [9] (fun s wx => ∃ (n' : Nat) (D : DS) (Fd Fe : Nat → Prop), s = .int .i64 (n' : Int) ∧ n' ≤ n + 1 ∧ Twins w.heap.size bd be Fd Fe D wx ∧ AloneD D (full p) n' ∧ Keeps No w wx)
        case first =>
          by_cases ht0 : t = 0
          · have q1 : kd % 18446744073709551616 % 2 = 0 := by omega
            have q2 : (IntKind.u64.wrap kd).tmod 2 = 0 := by omega
            have q3 : ((t : Int) == 0) = true := by rw [beq_iff_eq]; omega
            have hBk := hB.kept hk6
            obtain ⟨hTd, hTe, hTF, hTb, hTc⟩ := hT6
            have hw1 := d_write bd Fd D (k : Int) aB nB cB pB w6 hTd hBk hBn (Hfr.out Fd hTb _ _ _ _ hB) (by have := hA.wl; omega)
            obtain ⟨hA', hwe⟩ := hA.write k (by omega) pB (by rw [HlB.out]; omega)
            rw [hwe] at hw1
            have Hwe := Lib.hid hwe
            clear ht ht' ht0 hwe
            go_wp2_with fail
            refine hw1.mono ?_
            rintro e w7 ⟨rfl, F7, hd7, hs7⟩
            clear hw1
            have hF7 : ∀ i, F7 i → w.heap.size ≤ i := fun i hi => (hs7.fresh i hi).elim (hTb i) (fun h => Nat.le_trans hk6.size h)
            have hk7 : Keeps No w w7 := hk6.trans hs7.keeps (fun i hi h => absurd (hTb i h) (by omega))
            have he7 := hTe.keep hs7.keeps (fun i hg hf => hTF i hf hg)
            have hFG7 := hs7.apart hTF hTe.lt
            have hbN7 := hs7.keeps.blk hbN (fun h => by have := hTd.lt _ h; have := hTb _ h; have := hkN.size; exact absurd (hT.1.lt _ h) (by omega))
            obtain ⟨y0, y1, y2, y3⟩ := opd_cells hbN7
            have hw2 := d_write be Fe D (k : Int) aB nB cB pB w7 he7 (hB.kept hk7) hBn (Hfr.out Fe hTc _ _ _ _ hB) (by have := hA.wl; omega)
            rw [Hwe.out] at hw2
            go_wp2_with fail
            refine hw2.mono ?_
            rintro e w8 ⟨rfl, G8, he8, hs8⟩
            clear hw2
            have hG8 : ∀ i, G8 i → w.heap.size ≤ i := fun i hi => (hs8.fresh i hi).elim (hTc i) (fun h => Nat.le_trans hk7.size h)
            have hk8 : Keeps No w w8 := hk7.trans hs8.keeps (fun i hi h => absurd (hTc i h) (by omega))
            have hd8 := hd7.keep hs8.keeps (fun i hf hg => hFG7 i hf hg)
            have hFG8 : ∀ i, F7 i → ¬ G8 i := fun i hf hg => hs8.apart (fun i hg hf => hFG7 i hf hg) hd7.lt i hg hf
            go_wp2_with fail
            go_meet
            exact ⟨n + 1, _, F7, G8, by go_num, by omega, ⟨hd8, he8, hFG8, hF7, hG8⟩, hA', hk8⟩
          · have q1 : kd % 18446744073709551616 % 2 = 1 := by omega
            have q2 : (IntKind.u64.wrap kd).tmod 2 = 1 := by omega
            have q3 : ((t : Int) == 0) = false := by rw [beq_eq_false_iff_ne]; omega
            clear ht ht' ht0
            go_wp2_with fail
            go_meet
            exact ⟨n, D, Fd, Fe, rfl, by omega, hT6, hA, hk6⟩
        case rest =>
          clear hT hT6 hA hbN x0 x1 x2 x3 hkr hkN hk6
          obtain ⟨n', D, Fd, Fe, rfl, hn', hT, hA, hkr⟩ := hcut
          have hr6 := d_read bd Fd D 8 _ hT.1
          rw [hA.read] at hr6
          go_wp2_with fail
          refine hr6.mono ?_
          rintro e w7 ⟨v7, rfl, hown7, hk7⟩
          clear hr6
          obtain ⟨a7, c7, rfl, hs7, _⟩ := Sl.ofOwn hown7
          simp only at hown7 ⊢
          have hT7 := hT.kept hk7
          have hk07 := hkr.transNo hk7
          have hstr := fun wx (hx : Keeps No w7 wx) => strB (hs7.kept hx)
          have hstr0 := fun wx (hx : Keeps No w7 wx) => strB (hs0.kept (hk07.transNo hx))
          have Hwl := Lib.hid hA.wl
          clear hT
          go_wp2_with fail
          refine wp_region_held_drew (S := fun wx => Keeps No w7 wx) (by kernel_rfl) ((Keeps.refl _ _).drew) (fun hS => ?_)
          refine tk (i := 0) (oi := ⟨some 83, _, _, _, _, _⟩) (v := ?_) rfl (by kernel_rfl) (fun _ _ _ h => h) (by assumption) (by rfl) (fun w hSw => ?_) ?_; rotate_left; (focus (first | (go_simp; done) | (go_simp; with_reducible rfl))); simp only [Act.put, List.setIfInBounds_toArray, List.set_cons_zero, List.set_cons_succ]
          refine tk (i := 1) (oi := ⟨some 84, _, _, _, _, _⟩) (v := ?_) rfl (by kernel_rfl) (fun _ _ _ h => h) (by assumption) (by rfl) (fun w hSw => ?_) ?_; rotate_left; (focus (first | (go_simp; done) | (go_simp; with_reducible rfl))); simp only [Act.put, List.setIfInBounds_toArray, List.set_cons_zero, List.set_cons_succ]
          refine tk (i := 2) (oi := ⟨some 85, _, _, _, _, _⟩) (v := ?_) rfl (by kernel_rfl) (fun _ _ _ h => h) (by assumption) (by rfl) (fun w hSw => ?_) ?_; rotate_left; (focus (first | (go_simp; done) | (go_simp; with_reducible rfl))); simp only [Act.put, List.setIfInBounds_toArray, List.set_cons_zero, List.set_cons_succ]
          refine tk (i := 3) (oi := ⟨some 86, _, _, _, _, _⟩) (v := ?_) rfl (by kernel_rfl) (fun _ _ _ h => h) (by assumption) (by rfl) (fun w hSw => ?_) ?_; rotate_left; (focus (first | (go_simp; done) | (go_simp; with_reducible rfl))); simp only [Act.put, List.setIfInBounds_toArray, List.set_cons_zero, List.set_cons_succ]
          refine tk (i := 4) (oi := ⟨some 87, _, _, _, _, _⟩) (v := ?_) rfl (by kernel_rfl) (fun _ _ _ h => h) (by assumption) (by rfl) (fun w hSw => ?_) ?_; rotate_left; (focus (first | (go_simp; done) | (go_simp; with_reducible rfl))); simp only [Act.put, List.setIfInBounds_toArray, List.set_cons_zero, List.set_cons_succ]
          refine tk (i := 5) (oi := ⟨some 88, _, _, _, _, _⟩) (v := ?_) rfl (by kernel_rfl) (fun _ _ _ h => h) (by assumption) (by rfl) (fun w hSw => ?_) ?_; rotate_left; (focus (first | (go_simp; done) | (go_simp; with_reducible rfl))); simp only [Act.put, List.setIfInBounds_toArray, List.set_cons_zero, List.set_cons_succ]
          refine tk (i := 6) (oi := ⟨some 89, _, _, _, _, _⟩) (v := ?_) rfl (by kernel_rfl) (fun _ _ _ h => h) (by assumption) (by rfl) (fun w hSw => ?_) ?_; rotate_left; (focus (first | (go_simp; done) | (go_simp; with_reducible rfl))); simp only [Act.put, List.setIfInBounds_toArray, List.set_cons_zero, List.set_cons_succ]
          refine alone (i := 7) (oi := ⟨some 90, _, _, _, _, _⟩) rfl (by kernel_rfl) (by rfl) (fun K hK => ?_); go_simp
          refine (rfull_any p _ (by have := Hlen0.out; omega)).mono ?_
          rintro e w8 ⟨rfl, rfl⟩
          go_simp
          refine hK.out (fun wx => Keeps No w7 wx) _ _ (fun _ h => h) (hS) ?_
          clear hK K hS
          intro hS
          refine tk (i := 8) (oi := ⟨some 91, _, _, _, _, _⟩) (v := ?_) rfl (by kernel_rfl) (fun _ _ _ h => h) (by assumption) (by rfl) (fun w hSw => ?_) ?_; rotate_left; (focus (first | (go_simp; done) | (go_simp; with_reducible rfl))); simp only [Act.put, List.setIfInBounds_toArray, List.set_cons_zero, List.set_cons_succ]
          refine tk (i := 9) (oi := ⟨some 92, _, _, _, _, _⟩) (v := ?_) rfl (by kernel_rfl) (fun _ _ _ h => h) (by assumption) (by rfl) (fun w hSw => ?_) ?_; rotate_left; (focus (first | (go_simp; done) | (go_simp; with_reducible rfl))); simp only [Act.put, List.setIfInBounds_toArray, List.set_cons_zero, List.set_cons_succ]
          refine tk (i := 10) (oi := ⟨some 93, _, _, _, _, _⟩) (v := ?_) rfl (by kernel_rfl) (fun _ _ _ h => h) (by assumption) (by rfl) (fun w hSw => ?_) ?_; rotate_left; (focus (first | (go_simp; done) | (go_simp; with_reducible rfl))); simp only [Act.put, List.setIfInBounds_toArray, List.set_cons_zero, List.set_cons_succ]
          refine tk (i := 11) (oi := ⟨some 94, _, _, _, _, _⟩) (v := ?_) rfl (by kernel_rfl) (fun _ _ _ h => h) (by assumption) (by rfl) (fun w hSw => ?_) ?_; rotate_left; (focus (first | (go_simp; done) | (go_simp; with_reducible rfl))); simp only [Act.put, List.setIfInBounds_toArray, List.set_cons_zero, List.set_cons_succ]
          refine tk (i := 13) (oi := ⟨some 96, _, _, _, _, _⟩) (v := ?_) rfl (by kernel_rfl) (fun _ _ _ h => h) (by assumption) (by rfl) (fun w hSw => ?_) ?_; rotate_left; (focus (first | (go_simp; done) | (go_simp; with_reducible rfl))); simp only [Act.put, List.setIfInBounds_toArray, List.set_cons_zero, List.set_cons_succ]
          refine alone (i := 12) (oi := ⟨some 95, _, _, _, _, _⟩) rfl (by kernel_rfl) (by rfl) (fun K hK => ?_); go_simp
          refine (dwaiting_any bd Fd _ _ (hT7.1.kept hS)).mono ?_
          rintro e w8 ⟨rfl, rfl⟩
          rw [Hwl.out]
          go_simp
          refine hK.out (fun wx => Keeps No w7 wx) _ _ (fun _ h => h) (hS) ?_
          clear hK K hS
          intro hS
          refine tk (i := 14) (oi := ⟨some 97, _, _, _, _, _⟩) (v := ?_) rfl (by kernel_rfl) (fun _ _ _ h => h) (by assumption) (by rfl) (fun w hSw => ?_) ?_; rotate_left; (focus (first | (go_simp; done) | (go_simp; with_reducible rfl))); simp only [Act.put, List.setIfInBounds_toArray, List.set_cons_zero, List.set_cons_succ]
          refine tk (i := 15) (oi := ⟨some 98, _, _, _, _, _⟩) (v := ?_) rfl (by kernel_rfl) (fun _ _ _ h => h) (by assumption) (by rfl) (fun w hSw => ?_) ?_; rotate_left; (focus (first | (go_simp; done) | (go_simp; with_reducible rfl))); simp only [Act.put, List.setIfInBounds_toArray, List.set_cons_zero, List.set_cons_succ]
          refine wpAnyH_done (by kernel_rfl) ?_ _
          go_wp2_with fail
          go_roundg (n1 - (j + 1))
          case measure => have := Hq.out; omega
          case rel => exact ⟨j + 1, n', D, Fd, Fe, by omega, rfl, by go_num, rfl, by omega, by omega, hT7.kept hS, hA, hk07.transNo hS⟩
      · obtain rfl : n1 = j := by omega
        go_wp2_with fail
        go_meet
        exact ⟨n, D, Fd, Fe, rfl, hn61, hT, hA, hkr⟩
  case rest =>
    clear hT5 hA5
    obtain ⟨n, D, Fd, Fe, rfl, hn61, hT, hA, hkr⟩ := hcut
    have hcrE : D.crash (List.replicate n true) = ⟨keepW D.K D.W, [], none⟩ := by unfold DS.crash; rw [crashW_all _ _ _ hA.wl]
    have hsyE : D.sync = (⟨keepW D.K D.W, [], none⟩, 0) := by unfold DS.sync; rw [if_neg (by rw [hA.lim]; simp), hA.lim]; rfl
    have hKl : (keepW D.K D.W).length = 9 := by rw [keepW_len, hA.len]
    have HcrE := Lib.hid hcrE
    have HsyE := Lib.hid hsyE
    have HKl := Lib.hid hKl
    clear hcrE hsyE hKl
    obtain ⟨hTd, hTe, hTF, hTb, hTc⟩ := hT
    obtain ⟨i0, hi, hz0, hz1, hz2⟩ := info_parts bool_infoD
    obtain ⟨wx, hwx⟩ : ∃ wx, wx = wc := ⟨_, rfl⟩
    subst hwx
    go_wp2_with (at_make; refine wpList_make_full _ rfl _ _ 24 rfl wx.heap.size 4 i0 (.bool false) 1 Try.underlying24 hi hz0 hz1 _ _ _ _ n rfl rfl ?hL ?hC ?b2 ?b3 ?b4 ?_)
    case hL => rfl
    case hC => rfl
    case b2 => rw [hz2]; omega
    case b3 => unfold maxLen; omega
    case b4 => exact Nat.le_refl _
    intro wm hownm hgm
    rw [toList_madeCells_one] at hownm
    have hkm : Keeps No wx wm := (Keeps.refl No wx).grown hgm (fun _ h => by cases h)
    have hk0m := hkr.transNo hkm
    have hzm := hkm.size
    go_wp2_with fail
    go_loopg [104] n (fun q i wr => ∃ m : Nat, m ≤ n ∧ q = n - m ∧ i = .int .i64 (m : Int) ∧ wr.ownsRow wx.heap.size 4 1 (.slice (some ⟨wx.heap.size, 0, none⟩) n n) n ((List.replicate m true ++ List.replicate (n - m) false).map Value.bool) ∧ Keeps No wx wr)
    case atStart => exact ⟨0, Nat.zero_le _, rfl, rfl, by simpa using hownm, hkm⟩
    case round =>
      obtain ⟨m, hm, hq, rfl, hor, hkw⟩ := hrel
      have Hq := Lib.hid hq
      clear hq
      by_cases hlt : m < n
      · obtain ⟨ar, cr, hre, hsr, _⟩ := Sl.ofOwn hor
        obtain ⟨rfl, rfl⟩ : some ⟨wx.heap.size, 0, none⟩ = ar ∧ n = cr := by
          simp only [Value.slice.injEq] at hre
          exact ⟨hre.1, hre.2.2⟩
        have hix := hsr.ix (P := Try.prog) Try.underlying24 (by kernel_rfl) hlt .i64
        have hcm := hsr.at_ hlt
        have hbv : ((List.replicate m true ++ List.replicate (n - m) false).map Value.bool).getD m undef = .bool false := by
          rw [List.getD_eq_getElem?_getD, List.getElem?_map, List.getElem?_append_right (by simp)]
          simp [show 0 < n - m from by omega]
        rw [hbv] at hcm
        simp only [Option.getD_some, Addr.add_lit, Nat.zero_add] at hix hcm
        have hfm := hor.frozenAt m
        have hst := (hor.stored m (.bool true)).1
        have hnx : ((List.replicate m true ++ List.replicate (n - m) false).map Value.bool).set m (.bool true) = (List.replicate (m + 1) true ++ List.replicate (n - (m + 1)) false).map Value.bool := by
          rw [← List.map_set, List.set_append_right _ _ (by simp), List.length_replicate, Nat.sub_self]
          obtain ⟨q, hq⟩ : ∃ q, n - m = q + 1 := ⟨n - m - 1, by omega⟩
          rw [hq, show n - (m + 1) = q from by omega, List.replicate_succ, List.set_cons_zero, List.replicate_succ']
          simp
        rw [hnx] at hst
        have Hst := Lib.hid hst
        clear hre hsr hbv hnx hst
        go_wp2_with fail
        go_roundg (n - (m + 1))
        case measure => have := Hq.out; omega
        case rel => exact ⟨m + 1, by omega, rfl, by go_num, Hst.out, hkw.setCell (p := ⟨wx.heap.size, m, none⟩) (fun h => absurd h (by simp)) _⟩
      · obtain rfl : n = m := by omega
        rw [Nat.sub_self, List.replicate_zero, List.append_nil] at hor
        obtain ⟨ar, cr, hre, hsr, _⟩ := Sl.ofOwn hor
        obtain ⟨rfl, rfl⟩ : some ⟨wx.heap.size, 0, none⟩ = ar ∧ n = cr := by
          simp only [Value.slice.injEq] at hre
          exact ⟨hre.1, hre.2.2⟩
        have hcr := dcrash_any bd Fd D _ _ _ (List.replicate n true) wr (hTd.kept hkw) hsr (fun h0 hf => by have := hTd.lt _ hf; simp at this)
        rw [HcrE.out] at hcr
        have hk0w := hkr.transNo hkw
        have hTe1 := hTe.kept hkw
        clear hownm
        go_wp2_with fail
        refine hcr.mono ?_
        rintro e w7 ⟨rfl, hd7, hk7⟩
        clear hcr
        have hk07 : Keeps No w w7 := hk0w.trans hk7 (fun i hi h => absurd (hTb i h) (by omega))
        have he7 := hTe1.keep hk7 (fun i hg hf => hTF i hf hg)
        have hsy := d_sync be Fe D w7 he7
        rw [HsyE.out] at hsy
        go_wp2_with fail
        refine hsy.mono ?_
        rintro e w8 ⟨rfl, he8, hk8⟩
        clear hsy
        have hk08 : Keeps No w w8 := hk07.trans hk8 (fun i hi h => absurd (hTc i h) (by omega))
        have hd8 := hd7.keep hk8 (fun i hf hg => hTF i hf hg)
        simp only at he8 ⊢
        go_wp2_with fail
        go_loopg [116] 9 (fun q i wr => ∃ m : Nat, m ≤ 9 ∧ q = 9 - m ∧ i = .int .i64 (m : Int) ∧ Keeps No w8 wr)
        case atStart => exact ⟨0, by omega, rfl, rfl, Keeps.refl _ _⟩
        case round =>
          obtain ⟨m, hm, hq, rfl, hkx⟩ := hrel
          have Hq := Lib.hid hq
          clear hq
          by_cases hlt : m < 9
          · have hr1 := d_read bd Fd _ (m : Int) _ (hd8.kept hkx)
            generalize hR : (⟨keepW D.K D.W, [], none⟩ : DS).read (m : Int) = R at hr1
            go_wp2_with fail
            refine hr1.mono ?_
            rintro e w9 ⟨v9, rfl, hown9, hk9⟩
            clear hr1
            have hr2 := d_read be Fe _ (m : Int) _ ((he8.kept hkx).kept hk9)
            rw [hR] at hr2
            obtain ⟨a9, c9, rfl, hs9, _⟩ := Sl.ofOwn hown9
            have HRR := Lib.hid hR
            clear hR
            go_wp2_with fail
            refine hr2.mono ?_
            rintro e w10 ⟨v10, rfl, hown10, hk10⟩
            clear hr2
            obtain ⟨a10, c10, rfl, hs10, _⟩ := Sl.ofOwn hown10
            have e1 := strB (hs9.kept hk10)
            have e2 := strB hs10
            go_wp2_with fail
            go_roundg (9 - (m + 1))
            case measure => have := Hq.out; omega
            case rel => exact ⟨m + 1, by omega, rfl, by go_num, (hkx.transNo hk9).transNo hk10⟩
          · obtain rfl : m = 9 := by omega
            have hw1 := dwaiting_any bd Fd _ _ (hd8.kept hkx)
            have hw2 := dwaiting_any be Fe _ _ (he8.kept hkx)
            go_wp2_with fail
            refine hw1.mono ?_
            rintro e w9 ⟨rfl, rfl⟩
            go_wp2_with fail
            refine hw2.mono ?_
            rintro e w9 ⟨rfl, rfl⟩
            go_wp2_with fail
            go_ret
            exact ⟨rfl, hk08.transNo hkx⟩
end Go.Proofs.Ythimnkmoeonheaa
