/- Crash, Overwrite of package device. -/
import Derived.Test.YthimnkmoeonheaaDoorDevW
namespace Go.Proofs.YthimnkmoeonheaaDoor
open Go.RowKit
set_option linter.unusedSimpArgs false
set_option linter.unusedVariables false
set_option maxRecDepth 100000

theorem wpList_buildSlice_wr {ops : Array Oper} {rest : List Oper} {o : Oper} {ac : Act} {w : World} {Q : Exit → Act → World → Prop} (hg : o.guard = none) (y : Operand) (ho : o.op = .buildSlice 98 1 #[(0, y)])
    (x : WR) (hy : ac.eval y = .agg (wrC x).toArray) (hl : x.2.length = 16) (h : ∀ w', SlK w' 17 (some ⟨w.heap.size, 0, none⟩) 1 1 [wrC x] → Keeps No w w' → wpList Tryd.prog ops Q rest (ac.put o.dst (.slice (some ⟨w.heap.size, 0, none⟩) 1 1)) w') : wpList Tryd.prog ops Q (o :: rest) ac w :=
  wpList_plain hg fun _ hK => wp_buildSlice_wr y ho x hy hl (hK _ _ (h _ (SlK.one w _ _ (by simp [wrC, blkC_len, hl])) ((Keeps.refl No w).alloc _)))

theorem dcrash_nil (a : Option Addr) (n c : Nat) (w : World) :
    Calls Tryd.prog 26 #[.pointer none, .slice a n c] w fun e w' => e = .returned (.tuple #[]) ∧ w = w' := by
  go_enter Tryd.func26, Tryd.ntmps26
  go_wp2_with fail
  (try simp only [Exit.inBlock, Exit.then]); refine bodyPost_ret (results_none rfl _ _ _) rfl ?_
  exact ⟨rfl, rfl⟩

set_option maxHeartbeats 1000000 in
theorem dcrash_any (b : Nat) (F : Nat → Prop) (d : DS) (a : Option Addr) (n c : Nat) (keep : List Bool) (w : World) (h : Dv w b F d) (hs : Sl w a n c (keep.map Value.bool)) (hin : 0 < n → ¬ F (a.getD default).block) :
    Calls Tryd.prog 26 #[.pointer (some ⟨b, 0, none⟩), .slice a n c] w fun e w' => e = .returned (.tuple #[]) ∧ Dv w' b F (d.crash keep) ∧ Keeps F w w' := by
  have hlen : keep.length = n := by simpa using hs.len
  have hnm := hs.max
  have hnl := hs.le
  unfold maxLen at hnm
  obtain ⟨kb, ck, vw, cl, h1, h2, h3, h4, h5, h5', h6, h7, h8, h9, h10, h11⟩ := h
  obtain ⟨aw, cw, rfl, hsw, haw⟩ := SlK.ofOwn (k := 17) (by decide) (by intro x hx; obtain ⟨e, he, rfl⟩ := List.mem_map.1 hx; simp [wrC, blkC, (h11.ww e he).1]) h3
  have hwm := hsw.max
  have hwl := hsw.le
  unfold maxLen at hwm
  have hc0 := cell_of_row w b 0 _ _ (0, 0) h1
  have hc1 := cell_of_row w b 1 _ _ (0, 0) h1
  have hbl := h10 b h6
  have hkl := h10 kb h7
  have hwk : 0 < d.W.length → (aw.getD default).block ≠ kb := fun h0 => by
    obtain ⟨g, hg, _⟩ := haw _ (hsw.isSome h0)
    have := (h8 g (by rw [hsw.isSome h0, hg]; rfl)).2.2
    rw [hg]; exact this
  have hik : 0 < n → (a.getD default).block ≠ kb := fun h0 e => hin h0 (by rw [e]; exact h7)
  have Hwk := Lib.hid hwk
  have Hik := Lib.hid hik
  have Hlen := Lib.hid hlen
  have H4 := Lib.hid h4
  clear hwk hik hlen h4 haw
  go_enter Tryd.func26, Tryd.ntmps26
  go_wp2_with fail
  go_loopg [13] d.W.length (fun q i wr => ∃ m : Nat, m ≤ d.W.length ∧ q = d.W.length - m ∧ i = .int .i64 (m : Int) ∧ wr.ownsRow 0 107 16 (.slice (some ⟨kb, 0, none⟩) d.K.length ck) d.K.length ((crashW d.K ((d.W.zip keep).take m)).map blkC).flatten ∧ Keeps (fun i => i = kb) w wr)
  case atStart => exact ⟨0, Nat.zero_le _, rfl, rfl, h2, Keeps.refl _ _⟩
  case round =>
    obtain ⟨m, hm, hq, rfl, hor, hkr⟩ := hrel
    have Hq := Lib.hid hq
    clear hq
    by_cases hlt : m < d.W.length
    · have hsr := hsw.keep hkr (fun h0 e => Hwk.out h0 e)
      have hix := hsr.ix (P := Tryd.prog) Tryd.underlying98 write_size hlt .i64
      obtain ⟨hld, _⟩ := hsr.load (P := Tryd.prog) (ty := 109) Tryd.underlying109 rfl write_size hlt
      obtain ⟨x, hx⟩ : ∃ x, x = d.W[m] := ⟨_, rfl⟩
      have hxc : (d.W.map wrC).getD m [] = wrC x := by rw [hx]; simp [hlt]
      obtain ⟨hx16, hxN⟩ := h11.ww x (by rw [hx]; exact List.getElem_mem hlt)
      rw [hxc] at hld
      have hxs := wrA_size x hx16
      have HXS := Lib.hid hxs
      have HX16 := Lib.hid hx16
      have HX := Lib.hid hx
      obtain ⟨KR, hKR⟩ : ∃ KR, KR = crashW d.K ((d.W.zip keep).take m) := ⟨_, rfl⟩
      have hKRN : KR.length = d.K.length := by rw [hKR, crashW_len]
      have hKRw : ∀ x ∈ KR, x.length = 16 := by rw [hKR]; exact crashW_wide _ _ h11.kw (fun p hp => (h11.ww _ (List.of_mem_zip (List.mem_of_mem_take hp)).1).1)
      rw [← hKR] at hor
      have HKR := Lib.hid hKR
      have HKRN := Lib.hid hKRN
      clear hxc hx hxs hx16 hsr hKR hKRN
      have hbN := heap_alloc_new wr (.cells #[.int .i64 0, .int .u8 0, .int .u8 0, .int .u8 0, .int .u8 0, .int .u8 0, .int .u8 0, .int .u8 0, .int .u8 0, .int .u8 0, .int .u8 0, .int .u8 0, .int .u8 0, .int .u8 0, .int .u8 0, .int .u8 0, .int .u8 0] 109)
      have hkN : Keeps No wr (wr.alloc (.cells #[.int .i64 0, .int .u8 0, .int .u8 0, .int .u8 0, .int .u8 0, .int .u8 0, .int .u8 0, .int .u8 0, .int .u8 0, .int .u8 0, .int .u8 0, .int .u8 0, .int .u8 0, .int .u8 0, .int .u8 0, .int .u8 0, .int .u8 0] 109)) := (Keeps.refl No wr).alloc _
      have hgr := (hor.lt kb rfl).2
      go_upto_region 4 with (first | (refine wpList_storeRow rfl 109 (.tmp 5) (.tmp 17) rfl wr.heap.size (wrC x).toArray rfl rfl 109 _ hbN (by rw [HXS.out]; exact write_size) (by rw [HXS.out]; rfl) (wrA_one x) ?_; intro w5 hb5 hz5 hk5) | (refine wpList_loadV rfl 109 (.tmp 16) rfl _ rfl _ hld ?_))
      have hkr5 : Keeps No wr w5 := hkN.trans hk5 (fun i hi e => by omega)
      have hk05 := hkr.transNo hkr5
      have hor5 := own_keepB hor hkr5 (not_No _)
      have hc05 := hk05.cell hc0 h9
      obtain ⟨_, _, hl5⟩ := wr_cells hb5 HX16.out
      clear hbN hkN hk5 hld hix hor hz5
      have hz5' := hkr5.size
      have hnx0 : ¬ (m < n) → crashW d.K ((d.W.zip keep).take (m + 1)) = KR := fun hn => by
        rw [zip_take_ge _ _ m (m + 1) (by rw [Hlen.out]; omega) (by omega), HKR.out]
      have hnx1 : ∀ (hn : m < keep.length), crashW d.K ((d.W.zip keep).take (m + 1)) = if keep[m] then KR.set x.1 x.2 else KR := fun hn => by
        rw [zip_take_lt _ _ m hlt hn, crashW_snoc, HKR.out, HX.out]
      have Hnx0 := Lib.hid hnx0
      have Hnx1 := Lib.hid hnx1
      clear hnx0 hnx1
      by_cases hmn : m < n
      · have hsb := hs.keep hk05 (fun h0 e => Hik.out h0 e)
        have hixb := hsb.ix (P := Tryd.prog) Tryd.underlying52 (by kernel_rfl) hmn .i64
        have hcb := hsb.at_ hmn
        have hmk : m < keep.length := by rw [Hlen.out]; exact hmn
        have Hn1 := Lib.hid (Hnx1.out hmk)
        have hbv : (keep.map Value.bool).getD m undef = .bool keep[m] := by simp [hmk]
        rw [hbv] at hcb
        clear hbv hsb
        cases hkm : keep[m]
        · rw [hkm] at hcb
          have HKM := Lib.hid hkm
          clear hkm
          go_wp2_with fail
          go_roundg (d.W.length - (m + 1))
          case measure => have := Hq.out; omega
          case rel => exact ⟨m + 1, by omega, rfl, by go_num, by rw [Hn1.out, HKM.out]; exact hor5, hk05⟩
        · rw [hkm] at hcb
          have HKM := Lib.hid hkm
          clear hkm
          go_wp2_with (first | (refine wpList_buildSlice_wr (o := ⟨some 30, _, _, _, _, _⟩) rfl (.tmp 29) rfl x rfl HX16.out ?_) | (refine wpList_loadV (op := ⟨some 29, _, _, _, _, _⟩) rfl 109 (.tmp 5) rfl _ rfl _ hl5 ?_))
          intro wA hsA hkA
          have hkp := dkeep_raw b kb d.K.length ck KR [x] (some ⟨w5.heap.size, 0, none⟩) 1 1 wA (hkA.cell hc05 (not_No _)) h9 (own_keepB hor5 hkA (not_No _)) HKRN.out hKRw hsA (fun y hy => by simp at hy; subst hy; exact ⟨HX16.out, hxN⟩) (fun _ e => by simp at e; omega)
          go_wp2_with fail
          go_wp2_with fail
          refine hkp.mono ?_
          rintro e w6 ⟨rfl, hown6, hk6⟩
          go_wp2_with fail
          go_roundg (d.W.length - (m + 1))
          case measure => have := Hq.out; omega
          case rel => exact ⟨m + 1, by omega, rfl, by go_num, by rw [Hn1.out, HKM.out]; exact hown6, (hk05.transNo hkA).trans hk6 (fun _ _ h => h)⟩
      · have Hn0 := Lib.hid (Hnx0.out hmn)
        go_wp2_with fail
        go_roundg (d.W.length - (m + 1))
        case measure => have := Hq.out; omega
        case rel => exact ⟨m + 1, by omega, rfl, by go_num, by rw [Hn0.out]; exact hor5, hk05⟩
    · obtain rfl : m = d.W.length := by omega
      have hbr := hkr.blk h1 h9
      have hf1 := frozen_of_row wr b 1 _ _ hbr
      have hf2 := frozen_of_row wr b 2 _ _ hbr
      have hd1 := cell_of_row wr b 1 _ _ (0, 0) hbr
      have hd2 := cell_of_row wr b 2 _ _ (0, 0) hbr
      go_wp2_with fail
      go_end0
      have hb2 := heap_setCell_same wr b 1 _ _ (.slice none 0 0) hbr
      have hb3 := heap_setCell_same _ b 2 _ _ (.bool false) hb2
      have hkS : Keeps (fun g => g = b) wr ((wr.setCell ⟨b, 1, none⟩ (.slice none 0 0)).setCell ⟨b, 2, none⟩ (.bool false)) := (Keeps.set wr b 1 _).trans (Keeps.set _ b 2 _) (fun _ _ h => h)
      have e1 : crashW d.K ((d.W.zip keep).take d.W.length) = crashW d.K (d.W.zip keep) := by rw [List.take_of_length_le (by simp; omega)]
      rw [e1] at hor
      have hkT : Keeps F w ((wr.setCell ⟨b, 1, none⟩ (.slice none 0 0)).setCell ⟨b, 2, none⟩ (.bool false)) := (hkr.mono (T := F) (fun g _ hg => by rw [hg]; exact h7)).trans hkS (fun g _ hg => by rw [hg]; exact h6)
      refine ⟨rfl, ⟨kb, ck, .slice none 0 0, cl, ?_, ?_, World.ownsRow_nil _ _ _ _, fun q hq => by simp [DS.crash] at hq, h5, h5', h6, h7, fun g hg => by simp [Value.ownBlock] at hg, h9, fun g hg => Nat.lt_of_lt_of_le (h10 g hg) hkT.size, ?_⟩, hkT⟩
      · simp only [DS.crash, crashW_len]
        exact hb3
      · simp only [DS.crash, crashW_len]
        exact own_keepB hor hkS (fun e => h9 e.symm)
      · exact ⟨crashW_wide _ _ h11.kw (fun p hp => (h11.ww _ (List.of_mem_zip hp).1).1), fun x hx => by simp [DS.crash] at hx⟩
end Go.Proofs.YthimnkmoeonheaaDoor
