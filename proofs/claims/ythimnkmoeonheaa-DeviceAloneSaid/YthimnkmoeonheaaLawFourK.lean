/- The walk of the law DeviceKeeps. -/
import Derived.Test.YthimnkmoeonheaaLawFourF
namespace Go.Proofs.Ythimnkmoeonheaa
open Go.RowKit
set_option linter.unusedSimpArgs false
set_option linter.unusedVariables false

abbrev I64D := {n : Int // (Lit.int .i64 n).wf = true}
abbrev BSD := Option Addr × Nat × Nat × List UInt8
abbrev BLD := Option Addr × Nat × Nat × List Bool
abbrev OPD := I64D × I64D × BSD × BLD
def opdV (o : OPD) : List Value := [.int .i64 o.1.1] ++ ([.int .i64 o.2.1.1] ++ ([.slice o.2.2.1.1 o.2.2.1.2.1 o.2.2.1.2.2.1] ++ [.slice o.2.2.2.1 o.2.2.2.2.1 o.2.2.2.2.2.1]))
/-- The operation's own slices. -/
def OpdOk (w : World) (o : OPD) : Prop := (Sl w o.2.2.1.1 o.2.2.1.2.1 o.2.2.1.2.2.1 (o.2.2.1.2.2.2.map byteV) ∧ o.2.2.1.2.1 ≤ 140737488351232) ∧ Sl w o.2.2.2.1 o.2.2.2.2.1 o.2.2.2.2.2.1 (o.2.2.2.2.2.2.map Value.bool) ∧ o.2.2.2.2.1 ≤ 140737488351232
theorem opd_cells {w : World} {g : Nat} {a b c d : Value} {t : TypeId} (h : w.heap[g]? = some (.cells #[a, b, c, d] t (0, 0))) : w.cell? ⟨g, 0, none⟩ = some a ∧ w.cell? ⟨g, 1, none⟩ = some b ∧ w.cell? ⟨g, 2, none⟩ = some c ∧ w.cell? ⟨g, 3, none⟩ = some d :=
  ⟨cell_of_row w g 0 _ _ (0, 0) h, cell_of_row w g 1 _ _ (0, 0) h, cell_of_row w g 2 _ _ (0, 0) h, cell_of_row w g 3 _ _ (0, 0) h⟩
theorem opd_size : (Try.prog.info? 33).map (·.size) = some 4 := by kernel_rfl
theorem opd_wide (L : List OPD) : ∀ x ∈ L.map opdV, x.length = 4 := by intro x hx; obtain ⟨e, _, rfl⟩ := List.mem_map.1 hx; rfl
/-- A number under a bound, out of any int. -/
theorem umod (x : Int) (m : Int) (hm : 0 < m) : ∃ t : Nat, x % 18446744073709551616 % m = (t : Int) ∧ (IntKind.u64.wrap x).tmod m = (t : Int) ∧ (t : Int) < m := by
  have h0 : m ≠ 0 := by omega
  have h1 := Int.emod_nonneg (x % 18446744073709551616) h0
  have h2 := Int.emod_lt_of_pos (x % 18446744073709551616) hm
  have h3 : 0 ≤ x % 18446744073709551616 := by omega
  refine ⟨(x % 18446744073709551616 % m).toNat, by omega, ?_, by omega⟩
  rw [IntKind.wrap_u64, Int.tmod_eq_emod_of_nonneg h3]
  omega

theorem crashW_get (K : List (List UInt8)) (Z : List (WR × Bool)) (t : Nat) (h : ∀ p ∈ Z, p.1.1 ≠ t) : (crashW K Z).getD t [] = K.getD t [] := by
  induction Z generalizing K with
  | nil => rfl
  | cons p r ih =>
    show (crashW (if p.2 then K.set p.1.1 p.1.2 else K) r).getD t [] = _
    rw [ih _ (fun q hq => h q (by simp [hq]))]
    have hp := h p (by simp)
    split
    · simp [List.getElem?_set, hp]
    · rfl

/-- The block t holds x, writes lie elsewhere, nothing is limited. -/
structure KeepD (d : DS) (t : Nat) (x : List UInt8) (m j : Nat) : Prop where
  lim : d.lim = none
  len : d.K.length = m
  att : d.K.getD t [] = x
  ws : ∀ y ∈ d.W, y.1 ≠ t
  wl : d.W.length ≤ j
theorem KeepD.more {d : DS} {t m j : Nat} {x : List UInt8} (h : KeepD d t x m j) : KeepD d t x m (j + 1) := ⟨h.lim, h.len, h.att, h.ws, by have := h.wl; omega⟩
theorem KeepD.sync {d : DS} {t m j : Nat} {x : List UInt8} (h : KeepD d t x m j) (ht : t < m) : KeepD d.sync.1 t x m (j + 1) ∧ d.sync.2 = 0 := by
  have hl : ¬ d.lim = some 0 := by rw [h.lim]; simp
  unfold DS.sync
  rw [if_neg hl]
  refine ⟨⟨by simp [h.lim, callD], by simp [keepW_len, h.len], ?_, by simp, by simp⟩, rfl⟩
  show (keepW d.K d.W).getD t [] = x
  rw [keepW_get _ _ _ (by rw [h.len]; exact ht), h.att, lastW_not _ _ _ h.ws]
theorem KeepD.write {d : DS} {t m j : Nat} {x : List UInt8} (h : KeepD d t x m j) (i : Nat) (hi : i < m) (hit : i ≠ t) (p : List UInt8) (hp : p.length ≤ 16) : KeepD (d.write i p).1 t x m (j + 1) ∧ (d.write i p).2 = 0 := by
  have hl : ¬ d.lim = some 0 := by rw [h.lim]; simp
  have hr : rightD d.K.length i p.length = true := by unfold rightD; rw [h.len]; simp; omega
  unfold DS.write
  rw [if_pos hr, if_neg hl]
  refine ⟨⟨by simp [h.lim, callD], h.len, h.att, fun y hy => ?_, by have := h.wl; simp; omega⟩, rfl⟩
  rcases List.mem_append.1 hy with hy | hy
  · exact h.ws y hy
  · simp at hy; subst hy; simpa using hit
theorem KeepD.over {d : DS} {t m j : Nat} {x : List UInt8} (h : KeepD d t x m j) (i : Nat) (hi : i < m) (hit : i ≠ t) (p : List UInt8) (hp : p.length ≤ 16) : KeepD (d.over i p).1 t x m (j + 1) ∧ (d.over i p).2 = 0 := by
  have hr : rightD d.K.length i p.length = true := by unfold rightD; rw [h.len]; simp; omega
  unfold DS.over
  rw [if_pos hr]
  refine ⟨⟨h.lim, by simp [h.len], ?_, fun y hy => h.ws y (List.mem_filter.1 hy).1, ?_⟩, rfl⟩
  · have := h.att
    simp only [Int.toNat_natCast]
    rw [← this]
    simp [List.getElem?_set, hit]
  · have := List.length_filter_le (fun w : WR => !decide (w.1 = i)) d.W
    have := h.wl
    simp only [Int.toNat_natCast]
    omega

set_option maxRecDepth 100000 in
set_option maxHeartbeats 8000000 in
theorem deviceKeeps_any (a0 : Option Addr) (n0 c0 : Nat) (p : List UInt8) (a1 : Option Addr) (n1 c1 : Nat) (L : List OPD) (a2 : Option Addr) (n2 c2 : Nat) (keep : List Bool) (w : World)
    (hs0 : Sl w a0 n0 c0 (p.map byteV)) (hn0 : n0 ≤ 140737488351232) (hs1 : SlK w 4 a1 n1 c1 (L.map opdV)) (hL : ∀ o ∈ L, OpdOk w o) (hs2 : Sl w a2 n2 c2 (keep.map Value.bool)) (hn2 : n2 ≤ 140737488351232) :
    Calls Try.prog 3 #[.slice a0 n0 c0, .slice a1 n1 c1, .slice a2 n2 c2] w fun e w' => e = .returned (.bool true) ∧ Keeps No w w' := by
  have hlen : L.length = n1 := by simpa using hs1.len
  have hlen0 : p.length = n0 := by simpa using hs0.len
  have hwm := hs1.max
  have hwl := hs1.le
  unfold maxLen at hwm
  have Hlen := Lib.hid hlen
  have Hlen0 := Lib.hid hlen0
  have HL := Lib.hid hL
  clear hlen hlen0 hL
  go_enter Try.func3, Try.ntmps3
  go_wp2_with fail
  refine (first04_any _).mono ?_
  rintro e w1 ⟨rfl, hk1⟩
  have hz1 := hk1.size
  by_cases h16 : 16 < n0
  · go_wp2_with fail
    go_ret
    exact ⟨rfl, hk1⟩
  by_cases h200 : 200 < n2
  · go_wp2_with fail
    go_ret
    exact ⟨rfl, hk1⟩
  go_wp2_with fail
  refine (d_new 8 w1 (by omega) (by omega)).mono ?_
  rintro e w2 ⟨b, F, rfl, hd2, hF, hk2⟩
  have hk02 := hk1.transNo hk2
  have hfr : ∀ (G : Nat → Prop), (∀ i, G i → w.heap.size ≤ i) → ∀ (a : Option Addr) (n c : Nat) (xs : List Value), Sl w a n c xs → 0 < n → ¬ G (a.getD default).block := fun G hG a n c xs hs h0 h => by
    have := hs.lt h0
    have := hG _ h
    omega
  have Hfr := Lib.hid hfr
  clear hfr
  have hF0 : ∀ i, F i → w.heap.size ≤ i := fun i h => Nat.le_trans hz1 (hF i h)
  have hwr := d_write b F _ 7 a0 n0 c0 p w2 hd2 (hs0.kept hk02) hn0 (Hfr.out F hF0 _ _ _ _ hs0) (by simp)
  have hK0 : KeepD (⟨List.replicate 8 (full []), [], none⟩ : DS).sync.1 7 (full []) 8 0 := ⟨rfl, rfl, rfl, by simp [DS.sync], by simp [DS.sync]⟩
  have hwe : (⟨List.replicate 8 (full []), [], none⟩ : DS).write 7 p = (⟨List.replicate 8 (full []), [(7, full p)], none⟩, 0) := by
    unfold DS.write
    rw [if_pos (by unfold rightD; simp; have := Hlen0.out; omega), if_neg (by simp)]
    rfl
  rw [hwe] at hwr
  clear hwe hK0
  go_wp2_with fail
  refine hwr.mono ?_
  rintro e w3 ⟨rfl, F3, hd3, hs3⟩
  clear hwr
  have hF3 : ∀ i, F3 i → w.heap.size ≤ i := fun i hi => (hs3.fresh i hi).elim (hF0 i) (fun h => Nat.le_trans hk02.size h)
  have hk03 : Keeps No w w3 := hk02.trans hs3.keeps (fun i hi h => absurd (hF0 i h) (by omega))
  simp only at hd3 ⊢
  go_wp2_with fail
  refine (d_sync b F3 _ w3 hd3).mono ?_
  rintro e w4 ⟨rfl, hd4, hk4⟩
  have hk04 : Keeps No w w4 := hk03.trans hk4 (fun i hi h => absurd (hF3 i h) (by omega))
  have hO4 : KeepD (⟨List.replicate 8 (full []), [(7, full p)], none⟩ : DS).sync.1 7 (full p) 8 0 := ⟨rfl, rfl, rfl, by simp [DS.sync], by simp [DS.sync]⟩
  have he4 : (⟨List.replicate 8 (full []), [(7, full p)], none⟩ : DS).sync.2 = 0 := rfl
  rw [he4]
  generalize (⟨List.replicate 8 (full []), [(7, full p)], none⟩ : DS).sync.1 = d4 at hd4 hO4
  clear he4 hd3 hd2
  go_wp2_with fail
  go_loopg [39] n1 (fun q i wr => ∃ (j : Nat) (d : DS) (F' : Nat → Prop), j ≤ n1 ∧ q = n1 - j ∧ i = .int .i64 (j : Int) ∧ Dv wr b F' d ∧ (∃ m, m ≤ j ∧ m ≤ 80 ∧ KeepD d 7 (full p) 8 m) ∧ (∀ i, F' i → w.heap.size ≤ i) ∧ Keeps No w wr)
  case atStart => exact ⟨0, d4, F3, Nat.zero_le _, rfl, rfl, hd4, ⟨0, by omega, by omega, hO4⟩, hF3, hk04⟩
  case round =>
    clear hd4 hO4
    obtain ⟨j, d, F', hj, hq, rfl, hd, ⟨m, hmj, hm80, hO⟩, hF', hkr⟩ := hrel
    have Hq := Lib.hid hq
    clear hq
    by_cases hlt : j < n1
    · have hlt' : j < L.length := by rw [Hlen.out]; exact hlt
      have hsr := hs1.kept hkr
      have hix := hsr.ix (P := Try.prog) Try.underlying23 opd_size hlt .i64
      obtain ⟨hld, _⟩ := hsr.load (P := Try.prog) (ty := 33) Try.underlying33 rfl opd_size hlt
      obtain ⟨o, ho⟩ : ∃ o, o = L[j] := ⟨_, rfl⟩
      have hxc : (L.map opdV).getD j [] = opdV o := by rw [ho]; simp [hlt']
      obtain ⟨⟨hB, hBn⟩, hKp, hKn⟩ := HL.out o (by rw [ho]; exact List.getElem_mem hlt')
      obtain ⟨⟨kd, hkd⟩, ⟨iv, hiv⟩, ⟨aB, nB, cB, pB⟩, ⟨aK, nK, cK, pK⟩⟩ := o
      rw [hxc, show (opdV (⟨kd, hkd⟩, ⟨iv, hiv⟩, ⟨aB, nB, cB, pB⟩, ⟨aK, nK, cK, pK⟩)).toArray = #[.int .i64 kd, .int .i64 iv, .slice aB nB cB, .slice aK nK cK] from rfl] at hld
      simp only at hB hBn hKp hKn
      have hlB : pB.length = nB := by simpa using hB.len
      have HlB := Lib.hid hlB
      obtain ⟨t, ht, ht', ht7⟩ := umod kd 7 (by omega)
      obtain ⟨k, hk, hk', hk7⟩ := umod iv 7 (by omega)
      have htc : ∀ P : Prop, (∀ q : Int, kd % 18446744073709551616 % 7 = q → (IntKind.u64.wrap kd).tmod 7 = q → (q = 0 ∨ q = 1 ∨ q = 2 ∨ q = 3 ∨ q = 4 ∨ q = 5 ∨ q = 6) → P) → P := fun P h => h t ht ht' (by omega)
      have Htc := Lib.hid htc
      clear htc ht ht' ht7
      clear hxc ho hlB hsr hkd hiv
      go_upto_region 11 with (refine wpList_loadV (op := ⟨some 43, _, _, _, _, _⟩) rfl 33 (.tmp 42) rfl _ rfl _ hld ?_)
      have hbN := heap_alloc_new wr (.cells #[.int .i64 kd, .int .i64 iv, .slice aB nB cB, .slice aK nK cK] 33)
      have hkN : Keeps No wr (wr.alloc (.cells #[.int .i64 kd, .int .i64 iv, .slice aB nB cB, .slice aK nK cK] 33)) := (Keeps.refl No wr).alloc _
      generalize (wr.alloc (.cells #[.int .i64 kd, .int .i64 iv, .slice aB nB cB, .slice aK nK cK] 33)) = w5 at hbN hkN ⊢
      obtain ⟨x0, x1, x2, x3⟩ := opd_cells hbN
      have hk5 := hkr.transNo hkN
      have hd5 := hd.kept hkN
      clear hld hix
      have skip : ∃ m, m ≤ j + 1 ∧ m ≤ 80 ∧ KeepD d 7 (full p) 8 m := ⟨m, by omega, hm80, hO⟩
      have Skip := Lib.hid skip
      clear skip
      by_cases h80 : 80 ≤ j
      · have hd80 : decide ((80 : Int) ≤ (j : Int)) = true := by simp; omega
        go_wp2_with fail
        go_roundg (n1 - (j + 1))
        case measure => have := Hq.out; omega
        case rel => exact ⟨j + 1, d, F', by omega, rfl, by go_num, hd5, Skip.out, hF', hk5⟩
      by_cases hB16 : 16 < nB
      · have hd80 : decide ((80 : Int) ≤ (j : Int)) = false := by simp; omega
        have hd16 : decide ((16 : Int) < (nB : Int)) = true := by simp; omega
        go_wp2_with fail
        go_roundg (n1 - (j + 1))
        case measure => have := Hq.out; omega
        case rel => exact ⟨j + 1, d, F', by omega, rfl, by go_num, hd5, Skip.out, hF', hk5⟩
      have hwr := d_write b F' d (k : Int) aB nB cB pB w5 hd5 (hB.kept hk5) hBn (Hfr.out F' hF' _ _ _ _ hB) (by have := hO.wl; omega)
      have hov := d_over b F' d (k : Int) aB nB cB pB w5 hd5 (hB.kept hk5) hBn (Hfr.out F' hF' _ _ _ _ hB)
      have hsy := d_sync b F' d w5 hd5
      have HW := Lib.hid (hO.write k (by omega) (by omega) pB (by rw [HlB.out]; omega))
      have HO := Lib.hid (hO.over k (by omega) (by omega) pB (by rw [HlB.out]; omega))
      have HS := Lib.hid (hO.sync (by omega))
      have hd80 : decide ((80 : Int) ≤ (j : Int)) = false := by simp; omega
      have hd16 : decide ((16 : Int) < (nB : Int)) = false := by simp; omega
      have hm80' : m ≤ 80 := hm80
      have hj80 : j < 80 := by omega
      refine Htc.out _ (fun q hq1 hq2 hq => ?_)
      rcases hq with rfl | rfl | rfl | rfl | rfl | rfl | rfl
      · clear hov hsy HO HS
        go_wp2_with fail
        refine hwr.mono ?_
        rintro e w6 ⟨rfl, F6, hd6, hs6⟩
        have hk6 : Keeps No w w6 := hk5.trans hs6.keeps (fun i hi h => absurd (hF' i h) (by omega))
        have hF6 : ∀ i, F6 i → w.heap.size ≤ i := fun i hi => (hs6.fresh i hi).elim (hF' i) (fun h => by have := hk5.size; omega)
        clear hwr
        go_wp2_with fail
        go_roundg (n1 - (j + 1))
        case measure => have := Hq.out; omega
        case rel => exact ⟨j + 1, _, F6, by omega, rfl, by go_num, hd6, ⟨m + 1, by omega, by omega, HW.out.1⟩, hF6, hk6⟩
      · clear hov hsy HO HS hwr HW
        go_wp2_with fail
        go_roundg (n1 - (j + 1))
        case measure => have := Hq.out; omega
        case rel => exact ⟨j + 1, d, F', by omega, rfl, by go_num, hd5, Skip.out, hF', hk5⟩
      · clear hov hwr HO HW
        go_wp2_with fail
        refine hsy.mono ?_
        rintro e w6 ⟨rfl, hd6, hs6⟩
        have hk6 : Keeps No w w6 := hk5.trans hs6 (fun i hi h => absurd (hF' i h) (by omega))
        clear hsy
        go_wp2_with fail
        go_roundg (n1 - (j + 1))
        case measure => have := Hq.out; omega
        case rel => exact ⟨j + 1, _, F', by omega, rfl, by go_num, hd6, ⟨m + 1, by omega, by omega, HS.out.1⟩, hF', hk6⟩
      · clear hov hsy HO HS hwr HW
        go_wp2_with fail
        go_roundg (n1 - (j + 1))
        case measure => have := Hq.out; omega
        case rel => exact ⟨j + 1, d, F', by omega, rfl, by go_num, hd5, Skip.out, hF', hk5⟩
      · clear hov hsy HO HS hwr HW
        go_wp2_with fail
        go_roundg (n1 - (j + 1))
        case measure => have := Hq.out; omega
        case rel => exact ⟨j + 1, d, F', by omega, rfl, by go_num, hd5, Skip.out, hF', hk5⟩
      · clear hov hsy HO HS hwr HW
        go_wp2_with fail
        go_roundg (n1 - (j + 1))
        case measure => have := Hq.out; omega
        case rel => exact ⟨j + 1, d, F', by omega, rfl, by go_num, hd5, Skip.out, hF', hk5⟩
      · clear hwr hsy HW HS
        go_wp2_with fail
        refine hov.mono ?_
        rintro e w6 ⟨rfl, hd6, hs6⟩
        have hk6 : Keeps No w w6 := hk5.trans hs6 (fun i hi h => absurd (hF' i h) (by omega))
        clear hov
        go_wp2_with fail
        go_roundg (n1 - (j + 1))
        case measure => have := Hq.out; omega
        case rel => exact ⟨j + 1, _, F', by omega, rfl, by go_num, hd6, ⟨m + 1, by omega, by omega, HO.out.1⟩, hF', hk6⟩
    · have hcr := dcrash_any b F' d a2 n2 c2 keep wr hd (hs2.kept hkr) (Hfr.out F' hF' _ _ _ _ hs2)
      have hrd : (d.crash keep).read 7 = (full p, 0) := by
        unfold DS.read DS.crash DS.at_
        rw [show (⟨crashW d.K (d.W.zip keep), [], none⟩ : DS).K.length = 8 from by simp [crashW_len, hO.len], if_pos (by decide), if_neg (by simp)]
        have := crashW_get d.K (d.W.zip keep) 7 (fun p hp => hO.ws _ (List.of_mem_zip hp).1)
        rw [hO.att] at this
        simpa [lastW] using this
      have HRD := Lib.hid hrd
      clear hrd
      go_wp2_with fail
      refine hcr.mono ?_
      rintro e w6 ⟨rfl, hd6, hk6⟩
      clear hcr
      have hk06 : Keeps No w w6 := hkr.trans hk6 (fun i hi h => absurd (hF' i h) (by omega))
      have hr6 := d_read b F' _ 7 w6 hd6
      rw [HRD.out] at hr6
      go_wp2_with fail
      refine hr6.mono ?_
      rintro e w7 ⟨v7, rfl, hown7, hk7⟩
      clear hr6
      obtain ⟨a7, c7, rfl, hs7, _⟩ := Sl.ofOwn hown7
      simp only at hown7 ⊢
      have hd7 := hd6.kept hk7
      have hk07 := hk06.transNo hk7
      have hstr := fun wx (hx : Keeps No w7 wx) => strB (hs7.kept hx)
      have hstr0 := fun wx (hx : Keeps No w7 wx) => strB (hs0.kept (hk07.transNo hx))
      go_wp2_with fail
      refine wp_region_held_drew (S := fun wx => Keeps No w7 wx) (by kernel_rfl) ((Keeps.refl _ _).drew) (fun hS => ?_)
      refine tk (i := 0) (oi := ⟨some 102, _, _, _, _, _⟩) (v := ?_) rfl (by kernel_rfl) (fun _ _ _ h => h) (by assumption) (by rfl) (fun w hSw => ?_) ?_; rotate_left; (focus (first | (go_simp; done) | (go_simp; with_reducible rfl))); simp only [Act.put, List.setIfInBounds_toArray, List.set_cons_zero, List.set_cons_succ]
      refine tk (i := 1) (oi := ⟨some 103, _, _, _, _, _⟩) (v := ?_) rfl (by kernel_rfl) (fun _ _ _ h => h) (by assumption) (by rfl) (fun w hSw => ?_) ?_; rotate_left; (focus (first | (go_simp; done) | (go_simp; with_reducible rfl))); simp only [Act.put, List.setIfInBounds_toArray, List.set_cons_zero, List.set_cons_succ]
      refine tk (i := 2) (oi := ⟨some 104, _, _, _, _, _⟩) (v := ?_) rfl (by kernel_rfl) (fun _ _ _ h => h) (by assumption) (by rfl) (fun w hSw => ?_) ?_; rotate_left; (focus (first | (go_simp; done) | (go_simp; with_reducible rfl))); simp only [Act.put, List.setIfInBounds_toArray, List.set_cons_zero, List.set_cons_succ]
      refine tk (i := 3) (oi := ⟨some 105, _, _, _, _, _⟩) (v := ?_) rfl (by kernel_rfl) (fun _ _ _ h => h) (by assumption) (by rfl) (fun w hSw => ?_) ?_; rotate_left; (focus (first | (go_simp; done) | (go_simp; with_reducible rfl))); simp only [Act.put, List.setIfInBounds_toArray, List.set_cons_zero, List.set_cons_succ]
      refine tk (i := 4) (oi := ⟨some 106, _, _, _, _, _⟩) (v := ?_) rfl (by kernel_rfl) (fun _ _ _ h => h) (by assumption) (by rfl) (fun w hSw => ?_) ?_; rotate_left; (focus (first | (go_simp; done) | (go_simp; with_reducible rfl))); simp only [Act.put, List.setIfInBounds_toArray, List.set_cons_zero, List.set_cons_succ]
      refine tk (i := 5) (oi := ⟨some 107, _, _, _, _, _⟩) (v := ?_) rfl (by kernel_rfl) (fun _ _ _ h => h) (by assumption) (by rfl) (fun w hSw => ?_) ?_; rotate_left; (focus (first | (go_simp; done) | (go_simp; with_reducible rfl))); simp only [Act.put, List.setIfInBounds_toArray, List.set_cons_zero, List.set_cons_succ]
      refine tk (i := 6) (oi := ⟨some 108, _, _, _, _, _⟩) (v := ?_) rfl (by kernel_rfl) (fun _ _ _ h => h) (by assumption) (by rfl) (fun w hSw => ?_) ?_; rotate_left; (focus (first | (go_simp; done) | (go_simp; with_reducible rfl))); simp only [Act.put, List.setIfInBounds_toArray, List.set_cons_zero, List.set_cons_succ]
      refine alone (i := 7) (oi := ⟨some 109, _, _, _, _, _⟩) rfl (by kernel_rfl) (by rfl) (fun K hK => ?_); go_simp
      refine (rfull_any p _ (by have := Hlen0.out; omega)).mono ?_
      rintro e w8 ⟨rfl, rfl⟩
      go_simp
      refine hK.out (fun wx => Keeps No w7 wx) _ _ (fun _ h => h) (hS) ?_
      clear hK K hS
      intro hS
      refine tk (i := 8) (oi := ⟨some 110, _, _, _, _, _⟩) (v := ?_) rfl (by kernel_rfl) (fun _ _ _ h => h) (by assumption) (by rfl) (fun w hSw => ?_) ?_; rotate_left; (focus (first | (go_simp; done) | (go_simp; with_reducible rfl))); simp only [Act.put, List.setIfInBounds_toArray, List.set_cons_zero, List.set_cons_succ]
      refine tk (i := 9) (oi := ⟨some 111, _, _, _, _, _⟩) (v := ?_) rfl (by kernel_rfl) (fun _ _ _ h => h) (by assumption) (by rfl) (fun w hSw => ?_) ?_; rotate_left; (focus (first | (go_simp; done) | (go_simp; with_reducible rfl))); simp only [Act.put, List.setIfInBounds_toArray, List.set_cons_zero, List.set_cons_succ]
      refine tk (i := 10) (oi := ⟨some 112, _, _, _, _, _⟩) (v := ?_) rfl (by kernel_rfl) (fun _ _ _ h => h) (by assumption) (by rfl) (fun w hSw => ?_) ?_; rotate_left; (focus (first | (go_simp; done) | (go_simp; with_reducible rfl))); simp only [Act.put, List.setIfInBounds_toArray, List.set_cons_zero, List.set_cons_succ]
      refine tk (i := 11) (oi := ⟨some 113, _, _, _, _, _⟩) (v := ?_) rfl (by kernel_rfl) (fun _ _ _ h => h) (by assumption) (by rfl) (fun w hSw => ?_) ?_; rotate_left; (focus (first | (go_simp; done) | (go_simp; with_reducible rfl))); simp only [Act.put, List.setIfInBounds_toArray, List.set_cons_zero, List.set_cons_succ]
      refine alone (i := 12) (oi := ⟨some 114, _, _, _, _, _⟩) rfl (by kernel_rfl) (by rfl) (fun K hK => ?_); go_simp
      refine (dwaiting_any b F' _ _ (hd7.kept hS)).mono ?_
      rintro e w8 ⟨rfl, rfl⟩
      rw [show (d.crash keep).W.length = 0 from rfl]
      go_simp
      refine hK.out (fun wx => Keeps No w7 wx) _ _ (fun _ h => h) (hS) ?_
      clear hK K hS
      intro hS
      refine tk (i := 13) (oi := ⟨some 115, _, _, _, _, _⟩) (v := ?_) rfl (by kernel_rfl) (fun _ _ _ h => h) (by assumption) (by rfl) (fun w hSw => ?_) ?_; rotate_left; (focus (first | (go_simp; done) | (go_simp; with_reducible rfl))); simp only [Act.put, List.setIfInBounds_toArray, List.set_cons_zero, List.set_cons_succ]
      refine tk (i := 14) (oi := ⟨some 116, _, _, _, _, _⟩) (v := ?_) rfl (by kernel_rfl) (fun _ _ _ h => h) (by assumption) (by rfl) (fun w hSw => ?_) ?_; rotate_left; (focus (first | (go_simp; done) | (go_simp; with_reducible rfl))); simp only [Act.put, List.setIfInBounds_toArray, List.set_cons_zero, List.set_cons_succ]
      refine tk (i := 15) (oi := ⟨some 6, _, _, _, _, _⟩) (v := ?_) rfl (by kernel_rfl) (fun _ _ _ h => h) (by assumption) (by rfl) (fun w hSw => ?_) ?_; rotate_left; (focus (first | (go_simp; done) | (go_simp; with_reducible rfl))); simp only [Act.put, List.setIfInBounds_toArray, List.set_cons_zero, List.set_cons_succ]
      refine wpAnyH_done (by kernel_rfl) ?_ _
      go_wp2_with fail
      go_ret
      exact ⟨rfl, hk07.transNo hS⟩
end Go.Proofs.Ythimnkmoeonheaa
