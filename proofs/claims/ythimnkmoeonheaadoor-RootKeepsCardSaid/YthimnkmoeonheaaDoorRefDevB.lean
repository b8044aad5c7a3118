/- The walks of the document's device: Sync, Crash, Overwrite, New. -/
import Derived.Test.YthimnkmoeonheaaDoorRefDev
namespace Go.Proofs.YthimnkmoeonheaaDoor
open Go.RowKit
set_option linter.unusedSimpArgs false
set_option linter.unusedVariables false
set_option maxRecDepth 100000

theorem own_form {w : World} {base : Nat} {e : TypeId} {k n : Nat} {v : Value} {xs : List Value} (h : w.ownsRow base e k v n xs) (hn : 0 < n) : ∃ g c, v = .slice (some ⟨g, 0, none⟩) n c := by
  rcases h.2 with ⟨_, h'⟩ | ⟨g, cap, cur, h', _⟩
  · omega
  · exact ⟨g, cap, h'⟩

set_option maxHeartbeats 1000000 in
theorem rsync_ok (b : Nat) (F : Nat → Prop) (d : DS) (w : World) (h : Rv w b F d) (hl : d.lim ≠ some 0) :
    Calls Tryd.prog 36 #[.pointer (some ⟨b, 0, none⟩)] w fun e w' => e = .returned (.int .i64 0) ∧ Rv w' b F ⟨keepW d.K d.W, [], (callD d.lim).1⟩ ∧ Keeps F w w' := by
  have ho := rcall_on b F d w h hl
  have HFb : F b := by obtain ⟨_, _, _, _, _, h, _⟩ := h; exact h
  have HL := Lib.hid hl
  clear hl
  go_enter Tryd.func36, Tryd.ntmps36
  go_wp2_with fail
  refine ho.mono ?_
  rintro e w1 ⟨rfl, hd1, hk1⟩
  obtain ⟨vk, vl, h1, h2, h3, h4, h5, h6, h7, h8, h9, h10⟩ := hd1
  obtain ⟨al, cl, rfl, hsl, hal⟩ := SlK.ofOwn (k := 2) (xs := d.W.map wr2) (by decide) (wr2_wide _) h3
  have hwm := hsl.max
  have hwl := hsl.le
  unfold maxLen at hwm
  have hc0 := cell_of_row w1 b 0 _ _ (0, 0) h1
  have hc1 := cell_of_row w1 b 1 _ _ (0, 0) h1
  have hbl := h8 b h4
  obtain ⟨ak, ck, rfl, _, hak⟩ := Sl.ofOwn h2
  have hkw : ∀ g, (Value.slice ak d.K.length ck).ownBlock = some g → 0 < d.W.length → (al.getD default).block ≠ g := fun g hg h0 e => by
    have hs := hsl.isSome h0
    refine h7 g hg ?_
    rw [hs, ← e]; rfl
  have Hkw := Lib.hid hkw
  have H7 := Lib.hid h7
  have HO := Lib.hid ho
  clear hkw h7 ho
  go_wp2_with fail
  go_loopg [15] d.W.length (fun q i wr => ∃ m : Nat, m ≤ d.W.length ∧ q = d.W.length - m ∧ i = .int .i64 (m : Int) ∧ wr.ownsRow 0 9 1 (.slice ak d.K.length ck) d.K.length ((keepW d.K (d.W.take m)).map strC) ∧ Keeps (fun i => (Value.slice ak d.K.length ck).ownBlock = some i) w1 wr)
  case atStart => exact ⟨0, Nat.zero_le _, rfl, rfl, h2, Keeps.refl _ _⟩
  case round =>
    obtain ⟨m, hm, hq, rfl, hor, hkr⟩ := hrel
    have Hq := Lib.hid hq
    clear hq
    by_cases hlt : m < d.W.length
    · have hxN : (d.W[m]).1 < d.K.length := (h9.ww d.W[m] (List.getElem_mem hlt)).2
      obtain ⟨ga, hga, _, _⟩ := hak (ak.getD default) (by
        cases ak with
        | some x => rfl
        | none =>
          exfalso
          have h2n := hor.2
          rcases h2n with ⟨h', h''⟩ | ⟨g, cap, cur, h', _⟩
          · omega
          · simp at h')
      have hake : ak = some ⟨ga, 0, none⟩ := by
        cases ak with
        | some x => simp at hga; rw [hga]
        | none =>
          exfalso
          have h2n := hor.2
          rcases h2n with ⟨h', h''⟩ | ⟨g, cap, cur, h', _⟩
          · omega
          · simp at h'
      subst hake
      clear hga
      have hsr := hsl.keep hkr (fun h0 e => Hkw.out _ e h0 rfl)
      have hix := hsr.ix (P := Tryd.prog) Tryd.underlying121 wr2_size hlt .i64
      obtain ⟨hld, _⟩ := hsr.load (P := Tryd.prog) (ty := 128) Tryd.underlying128 rfl wr2_size hlt
      obtain ⟨x, hx⟩ : ∃ x, x = d.W[m] := ⟨_, rfl⟩
      have hxc : (d.W.map wr2).getD m [] = wr2 x := by rw [hx]; simp [hlt]
      have hnext : keepW d.K (d.W.take (m + 1)) = (keepW d.K (d.W.take m)).set x.1 x.2 := by rw [List.take_succ_eq_append_getElem hlt, keepW_snoc, ← hx]
      rw [← hx] at hxN
      rw [hxc, show (wr2 x).toArray = #[.int .i64 (x.1 : Int), .string ⟨x.2.toArray⟩] from rfl] at hld
      obtain ⟨KR, hKR⟩ : ∃ KR, KR = keepW d.K (d.W.take m) := ⟨_, rfl⟩
      have hKRN : KR.length = d.K.length := by rw [hKR, keepW_len]
      rw [← hKR] at hor hnext
      have HKRN := Lib.hid hKRN
      have HNX := Lib.hid hnext
      clear hxc hx hnext hsr hKR hKRN
      obtain ⟨ak', ck', hke, hsk, _⟩ := Sl.ofOwn hor
      obtain ⟨rfl, rfl⟩ : some ⟨ga, 0, none⟩ = ak' ∧ ck = ck' := by
        simp only [Value.slice.injEq] at hke
        exact ⟨hke.1, hke.2.2⟩
      have hixk := hsk.ix (P := Tryd.prog) Tryd.underlying120 (by kernel_rfl) hxN .i64
      have hck := hsk.at_ hxN
      simp only [Option.getD_some, Addr.add_lit, Nat.zero_add] at hixk hck
      have hfk := hor.frozenAt x.1
      have hbr := hkr.blk h1 (fun e => (h5 b e).2 rfl)
      have hcb := cell_of_row wr b 0 _ _ (0, 0) hbr
      have hgr := (hor.lt ga rfl).2
      have hgb : ga ≠ b := (h5 ga rfl).2
      go_wp2_with (refine wpList_loadV (op := ⟨some 18, _, _, _, _, _⟩) rfl 128 (.tmp 17) rfl _ rfl _ hld ?_)
      have hb5 := heap_alloc_new wr (.cells #[.int .i64 (x.1 : Int), .string ⟨x.2.toArray⟩] 128)
      have hkr5 : Keeps No wr (wr.alloc (.cells #[.int .i64 (x.1 : Int), .string ⟨x.2.toArray⟩] 128)) := (Keeps.refl No wr).alloc _
      generalize (wr.alloc (.cells #[.int .i64 (x.1 : Int), .string ⟨x.2.toArray⟩] 128)) = w5 at hb5 hkr5 ⊢
      have hk05 := hkr.transNo hkr5
      have hor5 := own_keepB hor hkr5 (not_No _)
      have hX := fun wx (hx : Keeps No w5 wx) => show (wx.cell? ⟨b, 0, none⟩ = _ ∧ wx.cell? ⟨wr.heap.size, 0, none⟩ = _ ∧ wx.cell? ⟨wr.heap.size, 1, none⟩ = _) from ⟨cell_of_row wx b 0 _ _ (0, 0) ((hkr5.transNo hx).blk hbr (not_No _)), cell_of_row wx _ 0 _ _ (0, 0) (hx.blk hb5 (not_No _)), cell_of_row wx _ 1 _ _ (0, 0) (hx.blk hb5 (not_No _))⟩
      have hz5' := hkr5.size
      have hc5 := hkr5.cell hck (not_No _)
      have hf5 := hor5.frozenAt x.1
      clear hld hix hor hcb hck hfk
      refine region_L (fun wx => Keeps No w5 wx ∧ wx.cell? ⟨b, 0, none⟩ = some (.slice (some ⟨ga, 0, none⟩) d.K.length ck) ∧ wx.cell? ⟨wr.heap.size, 0, none⟩ = some (.int .i64 (x.1 : Int)) ∧ wx.cell? ⟨wr.heap.size, 1, none⟩ = some (.string ⟨x.2.toArray⟩)) 9 (by kernel_rfl) (⟨(Keeps.refl _ _).drew, hX _ (Keeps.refl _ _).drew⟩) (fun hS => ?_)
      refine tkL (i := 0) (oi := ⟨some 19, _, _, _, _, _⟩) (v := ?_) rfl (by kernel_rfl) (fun _ _ _ h => h) (by assumption) (by rfl) (fun w hSw => ?_) ?_; rotate_left; (focus (first | (go_simp; done) | (go_simp; with_reducible rfl))); simp only [Act.put, List.setIfInBounds_toArray, List.set_cons_zero, List.set_cons_succ]
      refine tkL (i := 1) (oi := ⟨some 20, _, _, _, _, _⟩) (v := ?_) rfl (by kernel_rfl) (fun _ _ _ h => h) (by assumption) (by rfl) (fun w hSw => ?_) ?_; rotate_left; (focus (first | (go_simp; done) | (go_simp; with_reducible rfl))); simp only [Act.put, List.setIfInBounds_toArray, List.set_cons_zero, List.set_cons_succ]
      refine tkL (i := 2) (oi := ⟨some 21, _, _, _, _, _⟩) (v := ?_) rfl (by kernel_rfl) (fun _ _ _ h => h) (by assumption) (by rfl) (fun w hSw => ?_) ?_; rotate_left; (focus (first | (go_simp; done) | (go_simp; with_reducible rfl))); simp only [Act.put, List.setIfInBounds_toArray, List.set_cons_zero, List.set_cons_succ]
      refine tkL (i := 3) (oi := ⟨some 22, _, _, _, _, _⟩) (v := ?_) rfl (by kernel_rfl) (fun _ _ _ h => h) (by assumption) (by rfl) (fun w hSw => ?_) ?_; rotate_left; (focus (first | (go_simp; done) | (go_simp; with_reducible rfl))); simp only [Act.put, List.setIfInBounds_toArray, List.set_cons_zero, List.set_cons_succ]
      refine tkL (i := 4) (oi := ⟨some 23, _, _, _, _, _⟩) (v := ?_) rfl (by kernel_rfl) (fun _ _ _ h => h) (by assumption) (by rfl) (fun w hSw => ?_) ?_; rotate_left; (focus (first | (go_simp; done) | (go_simp; with_reducible rfl))); simp only [Act.put, List.setIfInBounds_toArray, List.set_cons_zero, List.set_cons_succ]
      refine tkL (i := 5) (oi := ⟨some 24, _, _, _, _, _⟩) (v := ?_) rfl (by kernel_rfl) (fun _ _ _ h => h) (by assumption) (by rfl) (fun w hSw => ?_) ?_; rotate_left; (focus (first | (go_simp; done) | (go_simp; with_reducible rfl))); simp only [Act.put, List.setIfInBounds_toArray, List.set_cons_zero, List.set_cons_succ]
      refine tkL (i := 6) (oi := ⟨some 25, _, _, _, _, _⟩) (v := ?_) rfl (by kernel_rfl) (fun _ _ _ h => h) (by assumption) (by rfl) (fun w hSw => ?_) ?_; rotate_left; (focus (first | (go_simp; done) | (go_simp; with_reducible rfl))); simp only [Act.put, List.setIfInBounds_toArray, List.set_cons_zero, List.set_cons_succ]
      refine tkL (i := 7) (oi := ⟨some 26, _, _, _, _, _⟩) (v := ?_) rfl (by kernel_rfl) (fun _ _ _ h => h) (by assumption) (by rfl) (fun w hSw => ?_) ?_; rotate_left; (focus (first | (go_simp; done) | (go_simp; with_reducible rfl))); simp only [Act.put, List.setIfInBounds_toArray, List.set_cons_zero, List.set_cons_succ]
      refine tkL (i := 8) (oi := ⟨some 27, _, _, _, _, _⟩) (v := ?_) rfl (by kernel_rfl) (fun _ _ _ h => h) (by assumption) (by rfl) (fun w hSw => ?_) ?_; rotate_left; (focus (first | (go_simp; done) | (go_simp; with_reducible rfl))); simp only [Act.put, List.setIfInBounds_toArray, List.set_cons_zero, List.set_cons_succ]
      refine aloneL (i := 9) (oi := ⟨none, _, _, _, _, _⟩) rfl (by kernel_rfl) (by rfl) (fun K hK => ?_); go_simp
      refine hK.out (fun wx => Keeps No w5 wx ∧ wx.cell? ⟨b, 0, none⟩ = some (.slice (some ⟨ga, 0, none⟩) d.K.length ck) ∧ wx.cell? ⟨wr.heap.size, 0, none⟩ = some (.int .i64 (x.1 : Int)) ∧ wx.cell? ⟨wr.heap.size, 1, none⟩ = some (.string ⟨x.2.toArray⟩)) _ _ (fun _ h => h) (fun e => absurd (show true = false from e) (by decide)) ?_
      clear hK K hS
      intro hS
      refine doneL (by kernel_rfl) ?_ _
      go_wp2_with fail
      go_roundg (d.W.length - (m + 1))
      case measure => have := Hq.out; omega
      case rel =>
        refine ⟨m + 1, by omega, rfl, by go_num, ?_, hk05.drew.setCell (p := ⟨ga, x.1, none⟩) (fun _ => rfl) _⟩
        rw [HNX.out, List.map_set]
        exact ((own_keepB hor5 ((Keeps.refl No w5).drew) (not_No _)).stored x.1 _).1
    · obtain rfl : m = d.W.length := by omega
      rw [List.take_length] at hor
      have hbr := hkr.blk h1 (fun e => (h5 b e).2 rfl)
      have hf1 := frozen_of_row wr b 1 _ _ hbr
      have hd1 := cell_of_row wr b 1 _ _ (0, 0) hbr
      have Hor := Lib.hid hor
      clear hor hc0 hc1
      go_wp2_with fail
      go_ret
      have hk3 := Keeps.set wr b 1 (.slice none 0 0)
      have hkF : Keeps F w (wr.setCell ⟨b, 1, none⟩ (.slice none 0 0)) := ((hk1.mono (T := F) (fun g _ hg => by rw [hg]; exact HFb)).trans hkr (fun g _ hg => (h5 g hg).1)).trans hk3 (fun g _ hg => by rw [hg]; exact HFb)
      refine ⟨rfl, ⟨_, .slice none 0 0, heap_setCell_same wr b 1 _ _ _ hbr, ?_, World.ownsRow_nil _ _ _ _, h4, h5, fun g hg => by simp [Value.ownBlock] at hg, fun g hg => by simp [Value.ownBlock], ?_, ?_, h10⟩, hkF⟩
      · simp only [keepW_len]
        exact hk3.own Hor.out (fun g hg => (h5 g hg).2)
      · intro g hg
        have := h8 g hg
        have := hkr.size
        have := hk3.size
        omega
      · exact ⟨keepW_wide _ _ h9.kw (fun x hx => (h9.ww x hx).1), fun x hx => by simp at hx⟩

theorem r_sync (b : Nat) (F : Nat → Prop) (d : DS) (w : World) (h : Rv w b F d) :
    Calls Tryd.prog 36 #[.pointer (some ⟨b, 0, none⟩)] w fun e w' => e = .returned (.int .i64 d.sync.2) ∧ Rv w' b F d.sync.1 ∧ Keeps F w w' := by
  unfold DS.sync
  by_cases hl : d.lim = some 0
  · rw [if_pos hl]
    have ho := rcall_off b F d w h hl
    clear hl
    go_enter Tryd.func36, Tryd.ntmps36
    go_wp2_with fail
    refine ho.mono ?_
    rintro e w1 ⟨rfl, rfl⟩
    go_wp2_with fail
    go_ret
    exact ⟨rfl, h, Keeps.refl _ _⟩
  · rw [if_neg hl]
    exact rsync_ok b F d w h hl

set_option maxHeartbeats 1000000 in
theorem r_crash (b : Nat) (F : Nat → Prop) (d : DS) (a : Option Addr) (n c : Nat) (keep : List Bool) (w : World) (h : Rv w b F d) (hK0 : 0 < d.K.length) (hs : Sl w a n c (keep.map Value.bool)) (hin : 0 < n → ¬ F (a.getD default).block) :
    Calls Tryd.prog 34 #[.pointer (some ⟨b, 0, none⟩), .slice a n c] w fun e w' => e = .returned (.tuple #[]) ∧ Rv w' b F (d.crash keep) ∧ Keeps F w w' := by
  have hlen : keep.length = n := by simpa using hs.len
  have hnm := hs.max
  have hnl := hs.le
  unfold maxLen at hnm
  obtain ⟨vk, vl, h1, h2, h3, h4, h5, h6, h7, h8, h9, h10⟩ := h
  obtain ⟨ga, ck, rfl⟩ := own_form h2 hK0
  obtain ⟨al, cl, rfl, hsl, hal⟩ := SlK.ofOwn (k := 2) (xs := d.W.map wr2) (by decide) (wr2_wide _) h3
  have hwm := hsl.max
  have hwl := hsl.le
  unfold maxLen at hwm
  have hc0 := cell_of_row w b 0 _ _ (0, 0) h1
  have hc1 := cell_of_row w b 1 _ _ (0, 0) h1
  have hbl := h8 b h4
  have hgF := (h5 ga rfl).1
  have hgb : ga ≠ b := (h5 ga rfl).2
  have hgl := h8 ga hgF
  have hkw : 0 < d.W.length → (al.getD default).block ≠ ga := fun h0 e => by
    have hs := hsl.isSome h0
    refine h7 ga rfl ?_
    rw [hs, ← e]; rfl
  have hik : 0 < n → (a.getD default).block ≠ ga := fun h0 e => hin h0 (by rw [e]; exact hgF)
  have Hkw := Lib.hid hkw
  have Hik := Lib.hid hik
  have Hlen := Lib.hid hlen
  have H7 := Lib.hid h7
  clear hkw hik hlen h7
  go_enter Tryd.func34, Tryd.ntmps34
  go_wp2_with fail
  go_loopg [11] d.W.length (fun q i wr => ∃ m : Nat, m ≤ d.W.length ∧ q = d.W.length - m ∧ i = .int .i64 (m : Int) ∧ wr.ownsRow 0 9 1 (.slice (some ⟨ga, 0, none⟩) d.K.length ck) d.K.length ((crashW d.K ((d.W.zip keep).take m)).map strC) ∧ Keeps (fun i => i = ga) w wr)
  case atStart => exact ⟨0, Nat.zero_le _, rfl, rfl, h2, Keeps.refl _ _⟩
  case round =>
    obtain ⟨m, hm, hq, rfl, hor, hkr⟩ := hrel
    have Hq := Lib.hid hq
    clear hq
    by_cases hlt : m < d.W.length
    · have hxN : (d.W[m]).1 < d.K.length := (h9.ww d.W[m] (List.getElem_mem hlt)).2
      have hsr := hsl.keep hkr (fun h0 e => Hkw.out h0 e)
      have hix := hsr.ix (P := Tryd.prog) Tryd.underlying121 wr2_size hlt .i64
      obtain ⟨hld, _⟩ := hsr.load (P := Tryd.prog) (ty := 128) Tryd.underlying128 rfl wr2_size hlt
      obtain ⟨x, hx⟩ : ∃ x, x = d.W[m] := ⟨_, rfl⟩
      have hxc : (d.W.map wr2).getD m [] = wr2 x := by rw [hx]; simp [hlt]
      rw [← hx] at hxN
      rw [hxc, show (wr2 x).toArray = #[.int .i64 (x.1 : Int), .string ⟨x.2.toArray⟩] from rfl] at hld
      obtain ⟨KR, hKR⟩ : ∃ KR, KR = crashW d.K ((d.W.zip keep).take m) := ⟨_, rfl⟩
      rw [← hKR] at hor
      have hnx0 : ¬ (m < n) → crashW d.K ((d.W.zip keep).take (m + 1)) = KR := fun hn => by
        rw [zip_take_ge _ _ m (m + 1) (by rw [Hlen.out]; omega) (by omega), hKR]
      have hnx1 : ∀ (hn : m < keep.length), crashW d.K ((d.W.zip keep).take (m + 1)) = if keep[m] then KR.set x.1 x.2 else KR := fun hn => by
        rw [zip_take_lt _ _ m hlt hn, crashW_snoc, hKR, hx]
      have Hnx0 := Lib.hid hnx0
      have Hnx1 := Lib.hid hnx1
      obtain ⟨ak', ck', hke, hsk, _⟩ := Sl.ofOwn hor
      obtain ⟨rfl, rfl⟩ : some ⟨ga, 0, none⟩ = ak' ∧ ck = ck' := by
        simp only [Value.slice.injEq] at hke
        exact ⟨hke.1, hke.2.2⟩
      have hixk := hsk.ix (P := Tryd.prog) Tryd.underlying120 (by kernel_rfl) hxN .i64
      have hck := hsk.at_ hxN
      simp only [Option.getD_some, Addr.add_lit, Nat.zero_add] at hixk hck
      have hbr := hkr.blk h1 (fun e => hgb e.symm)
      have hgr := (hor.lt ga rfl).2
      clear hke hsk hxc hx hsr hKR hnx0 hnx1
      go_upto_region 3 with (refine wpList_loadV (op := ⟨some 15, _, _, _, _, _⟩) rfl 128 (.tmp 14) rfl _ rfl _ hld ?_)
      have hb5 := heap_alloc_new wr (.cells #[.int .i64 (x.1 : Int), .string ⟨x.2.toArray⟩] 128)
      have hkr5 : Keeps No wr (wr.alloc (.cells #[.int .i64 (x.1 : Int), .string ⟨x.2.toArray⟩] 128)) := (Keeps.refl No wr).alloc _
      generalize (wr.alloc (.cells #[.int .i64 (x.1 : Int), .string ⟨x.2.toArray⟩] 128)) = w5 at hb5 hkr5 ⊢
      have hk05 := hkr.transNo hkr5
      have hor5 := own_keepB hor hkr5 (not_No _)
      have hX := fun wx (hx : Keeps No w5 wx) => show (wx.cell? ⟨b, 0, none⟩ = _ ∧ wx.cell? ⟨wr.heap.size, 0, none⟩ = _ ∧ wx.cell? ⟨wr.heap.size, 1, none⟩ = _) from ⟨cell_of_row wx b 0 _ _ (0, 0) ((hkr5.transNo hx).blk hbr (not_No _)), cell_of_row wx _ 0 _ _ (0, 0) (hx.blk hb5 (not_No _)), cell_of_row wx _ 1 _ _ (0, 0) (hx.blk hb5 (not_No _))⟩
      have hz5' := hkr5.size
      have hc5 := hkr5.cell hck (not_No _)
      have hf5 := hor5.frozenAt x.1
      clear hld hix hor hck
      by_cases hmn : m < n
      · have hsb := hs.keep hk05 (fun h0 e => Hik.out h0 e)
        have hixb := hsb.ix (P := Tryd.prog) Tryd.underlying52 (by kernel_rfl) hmn .i64
        have hcb := hsb.at_ hmn
        have hmk : m < keep.length := by rw [Hlen.out]; exact hmn
        have Hn1 := Lib.hid (Hnx1.out hmk)
        have hbv : (keep.map Value.bool).getD m undef = .bool keep[m] := by simp [hmk]
        rw [hbv] at hcb
        clear hbv hsb
        cases hkm : keep[m]
        · rw [hkm] at hcb
          have HKM := Lib.hid hkm
          clear hkm
          go_wp2_with fail
          go_roundg (d.W.length - (m + 1))
          case measure => have := Hq.out; omega
          case rel => exact ⟨m + 1, by omega, rfl, by go_num, by rw [Hn1.out, HKM.out]; exact hor5, hk05⟩
        · rw [hkm] at hcb
          have HKM := Lib.hid hkm
          clear hkm
          go_wp2_with fail
          clear hcb
          refine region_L (fun wx => Keeps No w5 wx ∧ wx.cell? ⟨b, 0, none⟩ = some (.slice (some ⟨ga, 0, none⟩) d.K.length ck) ∧ wx.cell? ⟨wr.heap.size, 0, none⟩ = some (.int .i64 (x.1 : Int)) ∧ wx.cell? ⟨wr.heap.size, 1, none⟩ = some (.string ⟨x.2.toArray⟩)) 9 (by kernel_rfl) (⟨(Keeps.refl _ _).drew, hX _ (Keeps.refl _ _).drew⟩) (fun hS => ?_)
          refine tkL (i := 0) (oi := ⟨some 26, _, _, _, _, _⟩) (v := ?_) rfl (by kernel_rfl) (fun _ _ _ h => h) (by assumption) (by rfl) (fun w hSw => ?_) ?_; rotate_left; (focus (first | (go_simp; done) | (go_simp; with_reducible rfl))); simp only [Act.put, List.setIfInBounds_toArray, List.set_cons_zero, List.set_cons_succ]
          refine tkL (i := 1) (oi := ⟨some 27, _, _, _, _, _⟩) (v := ?_) rfl (by kernel_rfl) (fun _ _ _ h => h) (by assumption) (by rfl) (fun w hSw => ?_) ?_; rotate_left; (focus (first | (go_simp; done) | (go_simp; with_reducible rfl))); simp only [Act.put, List.setIfInBounds_toArray, List.set_cons_zero, List.set_cons_succ]
          refine tkL (i := 2) (oi := ⟨some 28, _, _, _, _, _⟩) (v := ?_) rfl (by kernel_rfl) (fun _ _ _ h => h) (by assumption) (by rfl) (fun w hSw => ?_) ?_; rotate_left; (focus (first | (go_simp; done) | (go_simp; with_reducible rfl))); simp only [Act.put, List.setIfInBounds_toArray, List.set_cons_zero, List.set_cons_succ]
          refine tkL (i := 3) (oi := ⟨some 29, _, _, _, _, _⟩) (v := ?_) rfl (by kernel_rfl) (fun _ _ _ h => h) (by assumption) (by rfl) (fun w hSw => ?_) ?_; rotate_left; (focus (first | (go_simp; done) | (go_simp; with_reducible rfl))); simp only [Act.put, List.setIfInBounds_toArray, List.set_cons_zero, List.set_cons_succ]
          refine tkL (i := 4) (oi := ⟨some 30, _, _, _, _, _⟩) (v := ?_) rfl (by kernel_rfl) (fun _ _ _ h => h) (by assumption) (by rfl) (fun w hSw => ?_) ?_; rotate_left; (focus (first | (go_simp; done) | (go_simp; with_reducible rfl))); simp only [Act.put, List.setIfInBounds_toArray, List.set_cons_zero, List.set_cons_succ]
          refine tkL (i := 5) (oi := ⟨some 31, _, _, _, _, _⟩) (v := ?_) rfl (by kernel_rfl) (fun _ _ _ h => h) (by assumption) (by rfl) (fun w hSw => ?_) ?_; rotate_left; (focus (first | (go_simp; done) | (go_simp; with_reducible rfl))); simp only [Act.put, List.setIfInBounds_toArray, List.set_cons_zero, List.set_cons_succ]
          refine tkL (i := 6) (oi := ⟨some 32, _, _, _, _, _⟩) (v := ?_) rfl (by kernel_rfl) (fun _ _ _ h => h) (by assumption) (by rfl) (fun w hSw => ?_) ?_; rotate_left; (focus (first | (go_simp; done) | (go_simp; with_reducible rfl))); simp only [Act.put, List.setIfInBounds_toArray, List.set_cons_zero, List.set_cons_succ]
          refine tkL (i := 7) (oi := ⟨some 33, _, _, _, _, _⟩) (v := ?_) rfl (by kernel_rfl) (fun _ _ _ h => h) (by assumption) (by rfl) (fun w hSw => ?_) ?_; rotate_left; (focus (first | (go_simp; done) | (go_simp; with_reducible rfl))); simp only [Act.put, List.setIfInBounds_toArray, List.set_cons_zero, List.set_cons_succ]
          refine tkL (i := 8) (oi := ⟨some 34, _, _, _, _, _⟩) (v := ?_) rfl (by kernel_rfl) (fun _ _ _ h => h) (by assumption) (by rfl) (fun w hSw => ?_) ?_; rotate_left; (focus (first | (go_simp; done) | (go_simp; with_reducible rfl))); simp only [Act.put, List.setIfInBounds_toArray, List.set_cons_zero, List.set_cons_succ]
          refine aloneL (i := 9) (oi := ⟨none, _, _, _, _, _⟩) rfl (by kernel_rfl) (by rfl) (fun K hK => ?_); go_simp
          refine hK.out (fun wx => Keeps No w5 wx ∧ wx.cell? ⟨b, 0, none⟩ = some (.slice (some ⟨ga, 0, none⟩) d.K.length ck) ∧ wx.cell? ⟨wr.heap.size, 0, none⟩ = some (.int .i64 (x.1 : Int)) ∧ wx.cell? ⟨wr.heap.size, 1, none⟩ = some (.string ⟨x.2.toArray⟩)) _ _ (fun _ h => h) (fun e => absurd (show true = false from e) (by decide)) ?_
          clear hK K hS
          intro hS
          refine doneL (by kernel_rfl) ?_ _
          go_wp2_with fail
          go_roundg (d.W.length - (m + 1))
          case measure => have := Hq.out; omega
          case rel =>
            refine ⟨m + 1, by omega, rfl, by go_num, ?_, hk05.drew.setCell (p := ⟨ga, x.1, none⟩) (fun _ => rfl) _⟩
            rw [Hn1.out, HKM.out, if_pos rfl, List.map_set]
            exact ((own_keepB hor5 ((Keeps.refl No w5).drew) (not_No _)).stored x.1 _).1
      · have Hn0 := Lib.hid (Hnx0.out hmn)
        go_wp2_with fail
        go_roundg (d.W.length - (m + 1))
        case measure => have := Hq.out; omega
        case rel => exact ⟨m + 1, by omega, rfl, by go_num, by rw [Hn0.out]; exact hor5, hk05⟩
    · obtain rfl : m = d.W.length := by omega
      have e1 : crashW d.K ((d.W.zip keep).take d.W.length) = crashW d.K (d.W.zip keep) := by rw [List.take_of_length_le (by simp; omega)]
      rw [e1] at hor
      have hbr := hkr.blk h1 (fun e => hgb e.symm)
      have hf1 := frozen_of_row wr b 1 _ _ hbr
      have hf2 := frozen_of_row wr b 2 _ _ hbr
      have hd1 := cell_of_row wr b 1 _ _ (0, 0) hbr
      have hd2 := cell_of_row wr b 2 _ _ (0, 0) hbr
      have Hor := Lib.hid hor
      clear hor hc0 hc1 e1
      go_wp2_with fail
      go_end0
      have hb2 := heap_setCell_same wr b 1 _ _ (.slice none 0 0) hbr
      have hb3 := heap_setCell_same _ b 2 _ _ (.int .i64 (-1)) hb2
      have hkS : Keeps (fun g => g = b) wr ((wr.setCell ⟨b, 1, none⟩ (.slice none 0 0)).setCell ⟨b, 2, none⟩ (.int .i64 (-1))) := (Keeps.set wr b 1 _).trans (Keeps.set _ b 2 _) (fun _ _ h => h)
      have hkT : Keeps F w ((wr.setCell ⟨b, 1, none⟩ (.slice none 0 0)).setCell ⟨b, 2, none⟩ (.int .i64 (-1))) := (hkr.mono (T := F) (fun g _ hg => by rw [hg]; exact hgF)).trans hkS (fun g _ hg => by rw [hg]; exact h4)
      refine ⟨rfl, ⟨_, .slice none 0 0, hb3, ?_, World.ownsRow_nil _ _ _ _, h4, h5, fun g hg => by simp [Value.ownBlock] at hg, fun g hg => by simp [Value.ownBlock], fun g hg => Nat.lt_of_lt_of_le (h8 g hg) hkT.size, ?_, fun q hq => by simp [DS.crash] at hq⟩, hkT⟩
      · simp only [DS.crash, crashW_len]
        exact own_keepB Hor.out hkS hgb
      · exact ⟨crashW_wide _ _ h9.kw (fun p hp => (h9.ww _ (List.of_mem_zip hp).1).1), fun x hx => by simp [DS.crash] at hx⟩

/-- The writes that stay. -/
abbrev offR (i : Nat) : WR → Bool := fun w => !decide (w.1 = i)
theorem offR_hit (L : List WR) (i m : Nat) (hm : m < L.length) (h : (L[m]).1 = i) : (L.take (m + 1)).filter (offR i) = (L.take m).filter (offR i) := by
  rw [List.take_succ_eq_append_getElem hm, List.filter_append]; simp [h]
theorem offR_miss (L : List WR) (i m : Nat) (hm : m < L.length) (h : (L[m]).1 ≠ i) : (L.take (m + 1)).filter (offR i) = (L.take m).filter (offR i) ++ [L[m]] := by
  rw [List.take_succ_eq_append_getElem hm, List.filter_append]; simp [h]

set_option maxHeartbeats 1000000 in
theorem rover_ok (b : Nat) (F : Nat → Prop) (d : DS) (i : Int) (p : List UInt8) (w : World) (h : Rv w b F d) (hr : rightD d.K.length i p.length = true) (hW : d.W.length ≤ 1099511627776) :
    Calls Tryd.prog 31 #[.pointer (some ⟨b, 0, none⟩), .int .i64 i, .string ⟨p.toArray⟩] w fun e w' => e = .returned (.int .i64 0) ∧
      ∃ F', Rv w' b F' ⟨d.K.set i.toNat (full p), d.W.filter (offR i.toNat), d.lim⟩ ∧ Step F F' w w' := by
  have hri := hr
  unfold rightD at hri
  simp at hri
  obtain ⟨⟨hi0, hiK⟩, hp16⟩ := hri
  have hrt := rright_any b F d i p w h (by omega)
  rw [hr] at hrt
  obtain ⟨j, rfl⟩ : ∃ j : Nat, i = (j : Int) := ⟨i.toNat, by omega⟩
  have hjK : j < d.K.length := by omega
  have HR := Lib.hid hr
  obtain ⟨vk, vl, h1, h2, h3, h4, h5, h6, h7, h8, h9, h10⟩ := h
  obtain ⟨ga, ck, rfl⟩ := own_form h2 (by omega)
  obtain ⟨al, cl, rfl, hsl, hal⟩ := SlK.ofOwn (k := 2) (xs := d.W.map wr2) (by decide) (wr2_wide _) h3
  have hwm := hsl.max
  have hwl := hsl.le
  unfold maxLen at hwm
  have hc0 := cell_of_row w b 0 _ _ (0, 0) h1
  have hc1 := cell_of_row w b 1 _ _ (0, 0) h1
  have hbl := h8 b h4
  have hgF := (h5 ga rfl).1
  have hgb : ga ≠ b := (h5 ga rfl).2
  have hgl := h8 ga hgF
  have H7 := Lib.hid h7
  clear hr h7
  go_enter Tryd.func31, Tryd.ntmps31
  go_wp2_with fail
  refine hrt.mono ?_
  rintro e w1 ⟨rfl, rfl⟩
  go_wp2_with fail
  clear hrt
  go_loopg [7, 20] d.W.length (fun q v7 i' wr => ∃ m : Nat, m ≤ d.W.length ∧ q = d.W.length - m ∧ i' = .int .i64 (m : Int) ∧ ((d.W.take m).filter (offR j)).length ≤ m ∧ wr.ownsRow w.heap.size 128 2 v7 ((d.W.take m).filter (offR j)).length (((d.W.take m).filter (offR j)).map wr2).flatten ∧ Keeps No w wr)
  case atStart => exact ⟨0, Nat.zero_le _, rfl, rfl, by simp, World.ownsRow_nil _ _ _ _, Keeps.refl _ _⟩
  case round =>
    obtain ⟨m, hm, hq, rfl, hln, hor, hkr⟩ := hrel
    have Hq := Lib.hid hq
    clear hq
    obtain ⟨R, hR⟩ : ∃ R, R = (d.W.take m).filter (offR j) := ⟨_, rfl⟩
    rw [← hR] at hln hor
    have HRR := Lib.hid hR
    clear hR
    obtain ⟨a7, c7, rfl, _, _⟩ := SlK.ofOwn (k := 2) (xs := R.map wr2) (by decide) (wr2_wide _) hor
    by_cases hlt : m < d.W.length
    · have hsr := hsl.kept hkr
      have hix := hsr.ix (P := Tryd.prog) Tryd.underlying121 wr2_size hlt .i64
      obtain ⟨hld, _⟩ := hsr.load (P := Tryd.prog) (ty := 128) Tryd.underlying128 rfl wr2_size hlt
      obtain ⟨x, hx⟩ : ∃ x, x = d.W[m] := ⟨_, rfl⟩
      have hxc : (d.W.map wr2).getD m [] = wr2 x := by rw [hx]; simp [hlt]
      rw [hxc, show (wr2 x).toArray = #[.int .i64 (x.1 : Int), .string ⟨x.2.toArray⟩] from rfl] at hld
      have HX := Lib.hid hx
      clear hxc hx hsr
      go_upto_region 7 with (refine wpList_loadV (op := ⟨some 23, _, _, _, _, _⟩) rfl 128 (.tmp 22) rfl _ rfl _ hld ?_)
      have hb5 := heap_alloc_new wr (.cells #[.int .i64 (x.1 : Int), .string ⟨x.2.toArray⟩] 128)
      have hkr5 : Keeps No wr (wr.alloc (.cells #[.int .i64 (x.1 : Int), .string ⟨x.2.toArray⟩] 128)) := (Keeps.refl No wr).alloc _
      generalize (wr.alloc (.cells #[.int .i64 (x.1 : Int), .string ⟨x.2.toArray⟩] 128)) = w5 at hb5 hkr5 ⊢
      have hk05 := hkr.transNo hkr5
      have hz5' := hk05.size
      have hor5 := hkr5.own hor (fun _ _ => not_No _)
      have x0 := cell_of_row w5 _ 0 _ _ (0, 0) hb5
      have x1 := cell_of_row w5 _ 1 _ _ (0, 0) hb5
      clear hld hix hor
      by_cases hij : x.1 = j
      · have q1 : ((x.1 : Int) == (j : Int)) = true := by rw [beq_iff_eq]; omega
        have Hn := Lib.hid (offR_hit d.W j m hlt (by rw [← HX.out]; exact hij))
        clear hij
        go_wp2_with fail
        go_roundg (d.W.length - (m + 1))
        case measure => have := Hq.out; omega
        case rel => exact ⟨m + 1, by omega, rfl, by go_num, by rw [Hn.out, ← HRR.out]; omega, by rw [Hn.out, ← HRR.out]; exact hor5, hk05⟩
      · have q1 : ((x.1 : Int) == (j : Int)) = false := by rw [beq_eq_false_iff_ne]; omega
        have Hn := Lib.hid (offR_miss d.W j m hlt (by rw [← HX.out]; exact hij))
        have hor6 := hor5.alloc (.cells #[.int .i64 (x.1 : Int), .string ⟨x.2.toArray⟩] 128)
        have hs6 := SlK.one w5 (wr2 x) 128 rfl
        have hk6 := hk05.alloc (.cells #[.int .i64 (x.1 : Int), .string ⟨x.2.toArray⟩] 128)
        have hz6 := hk6.size
        clear hij
        go_wp2_with (at_builtin; refine app_ownK rfl (.tmp 28) (.tmp 30) 121 rfl w.heap.size 128 _ 2 24 Tryd.underlying121 wr2_info rfl (by decide) (by decide) _ R.length _ rfl hor6 _ 1 1 [wr2 x] rfl hs6 (wr2_one [x]) (by omega) hz6 ?_)
        intro v8 w8 hown8 hg8 hat8
        have hX8 : Keeps No w w8 := hk6.grown hg8 (fun i hi hlt => absurd hlt (by have := (hor6.lt i hi).1; omega))
        replace hown8 : w8.ownsRow w.heap.size 128 2 v8 (R ++ [x]).length ((R ++ [x]).map wr2).flatten := by rw [List.length_append]; simpa using hown8
        have Hown8 := Lib.hid hown8
        clear hown8 hat8 hg8
        go_wp2_with fail
        go_roundg (d.W.length - (m + 1))
        case measure => have := Hq.out; omega
        case rel => exact ⟨m + 1, by omega, rfl, by go_num, by rw [Hn.out, ← HRR.out, List.length_append]; simp; omega, by rw [Hn.out, ← HRR.out, ← HX.out]; exact Hown8.out, hX8⟩
    · obtain rfl : m = d.W.length := by omega
      have hRf : R = d.W.filter (offR j) := by rw [HRR.out, List.take_length]
      have HRF := Lib.hid hRf
      have hbr := hkr.blk h1 (not_No _)
      have hf1 := frozen_of_row wr b 1 _ _ hbr
      have hd1 := cell_of_row wr b 1 _ _ (0, 0) hbr
      have hzr := hkr.size
      have hb3 := heap_setCell_same wr b 1 _ _ (.slice a7 R.length c7) hbr
      have hk3 := Keeps.set wr b 1 (.slice a7 R.length c7)
      have hown3 : (wr.setCell ⟨b, 1, none⟩ (.slice a7 R.length c7)).ownsRow w.heap.size 128 2 (.slice a7 R.length c7) R.length (R.map wr2).flatten := hk3.own hor (fun g hg e => by have := (hor.lt g hg).1; omega)
      have h2K : (wr.setCell ⟨b, 1, none⟩ (.slice a7 R.length c7)).ownsRow 0 9 1 (.slice (some ⟨ga, 0, none⟩) d.K.length ck) d.K.length (d.K.map strC) := own_keepB (own_keepB h2 hkr (not_No _)) hk3 hgb
      have hkw3 : Keeps (fun g => g = b) w (wr.setCell ⟨b, 1, none⟩ (.slice a7 R.length c7)) := hkr.noTrans hk3 (fun _ _ h => h)
      have h7n : ∀ g, (Value.slice a7 R.length c7).ownBlock = some g → w.heap.size ≤ g := fun g hg => (hor.lt g hg).1
      have H7N := Lib.hid h7n
      clear hRf hor hc0 hc1 h7n
      go_wp2_with fail
      obtain ⟨w3, hw3⟩ : ∃ w3, w3 = wr.setCell ⟨b, 1, none⟩ (.slice a7 R.length c7) := ⟨_, rfl⟩
      rw [← hw3] at hb3 hk3 hown3 h2K hkw3 ⊢
      have HW3 := Lib.hid hw3
      have hz3 := hkw3.size
      clear hw3 hf1 hd1
      have hcB := fun wx (hx : Keeps No w3 wx) => cell_of_row wx b 0 _ _ (0, 0) (hx.blk hb3 (not_No _))
      obtain ⟨ak', ck', hke, hsk, _⟩ := Sl.ofOwn h2K
      obtain ⟨rfl, rfl⟩ : some ⟨ga, 0, none⟩ = ak' ∧ ck = ck' := by
        simp only [Value.slice.injEq] at hke
        exact ⟨hke.1, hke.2.2⟩
      have hixk := hsk.ix (P := Tryd.prog) Tryd.underlying120 (by kernel_rfl) hjK .i64
      have hck := hsk.at_ hjK
      have hfk := h2K.frozenAt j
      simp only [Option.getD_some, Addr.add_lit, Nat.zero_add] at hixk hck
      clear hke hsk
      refine region_L (fun wx => Keeps No w3 wx ∧ wx.cell? ⟨b, 0, none⟩ = some (.slice (some ⟨ga, 0, none⟩) d.K.length ck)) 8 (by kernel_rfl) (⟨(Keeps.refl _ _).drew, hcB _ (Keeps.refl _ _).drew⟩) (fun hS => ?_)
      refine tkL (i := 0) (oi := ⟨some 37, _, _, _, _, _⟩) (v := ?_) rfl (by kernel_rfl) (fun _ _ _ h => h) (by assumption) (by rfl) (fun w hSw => ?_) ?_; rotate_left; (focus (first | (go_simp; done) | (go_simp; with_reducible rfl))); simp only [Act.put, List.setIfInBounds_toArray, List.set_cons_zero, List.set_cons_succ]
      refine tkL (i := 1) (oi := ⟨some 38, _, _, _, _, _⟩) (v := ?_) rfl (by kernel_rfl) (fun _ _ _ h => h) (by assumption) (by rfl) (fun w hSw => ?_) ?_; rotate_left; (focus (first | (go_simp; done) | (go_simp; with_reducible rfl))); simp only [Act.put, List.setIfInBounds_toArray, List.set_cons_zero, List.set_cons_succ]
      refine tkL (i := 2) (oi := ⟨some 39, _, _, _, _, _⟩) (v := ?_) rfl (by kernel_rfl) (fun _ _ _ h => h) (by assumption) (by rfl) (fun w hSw => ?_) ?_; rotate_left; (focus (first | (go_simp; done) | (go_simp; with_reducible rfl))); simp only [Act.put, List.setIfInBounds_toArray, List.set_cons_zero, List.set_cons_succ]
      refine tkL (i := 3) (oi := ⟨some 40, _, _, _, _, _⟩) (v := ?_) rfl (by kernel_rfl) (fun _ _ _ h => h) (by assumption) (by rfl) (fun w hSw => ?_) ?_; rotate_left; (focus (first | (go_simp; done) | (go_simp; with_reducible rfl))); simp only [Act.put, List.setIfInBounds_toArray, List.set_cons_zero, List.set_cons_succ]
      refine tkL (i := 4) (oi := ⟨some 41, _, _, _, _, _⟩) (v := ?_) rfl (by kernel_rfl) (fun _ _ _ h => h) (by assumption) (by rfl) (fun w hSw => ?_) ?_; rotate_left; (focus (first | (go_simp; done) | (go_simp; with_reducible rfl))); simp only [Act.put, List.setIfInBounds_toArray, List.set_cons_zero, List.set_cons_succ]
      refine tkL (i := 5) (oi := ⟨some 42, _, _, _, _, _⟩) (v := ?_) rfl (by kernel_rfl) (fun _ _ _ h => h) (by assumption) (by rfl) (fun w hSw => ?_) ?_; rotate_left; (focus (first | (go_simp; done) | (go_simp; with_reducible rfl))); simp only [Act.put, List.setIfInBounds_toArray, List.set_cons_zero, List.set_cons_succ]
      refine aloneL (i := 6) (oi := ⟨some 43, _, _, _, _, _⟩) rfl (by kernel_rfl) (by rfl) (fun K hK => ?_); go_simp
      refine (rfull_any p _ (by omega)).mono ?_
      rintro e w4 ⟨rfl, rfl⟩
      go_simp
      refine hK.out (fun wx => Keeps No w3 wx ∧ wx.cell? ⟨b, 0, none⟩ = some (.slice (some ⟨ga, 0, none⟩) d.K.length ck)) _ _ (fun _ h => h) (fun _ => hS) ?_
      clear hK K hS
      intro hS
      replace hS := hS rfl
      refine tkL (i := 7) (oi := ⟨some 44, _, _, _, _, _⟩) (v := ?_) rfl (by kernel_rfl) (fun _ _ _ h => h) (by assumption) (by rfl) (fun w hSw => ?_) ?_; rotate_left; (focus (first | (go_simp; done) | (go_simp; with_reducible rfl))); simp only [Act.put, List.setIfInBounds_toArray, List.set_cons_zero, List.set_cons_succ]
      refine aloneL (i := 8) (oi := ⟨none, _, _, _, _, _⟩) rfl (by kernel_rfl) (by rfl) (fun K hK => ?_); go_simp
      refine hK.out (fun wx => Keeps No w3 wx ∧ wx.cell? ⟨b, 0, none⟩ = some (.slice (some ⟨ga, 0, none⟩) d.K.length ck)) _ _ (fun _ h => h) (fun e => absurd (show true = false from e) (by decide)) ?_
      clear hK K hS
      intro hS
      refine doneL (by kernel_rfl) ?_ _
      go_wp2_with fail
      go_ret
      have hk35 : Keeps (fun g => g = ga) w3 (w3.setCell ⟨ga, j, none⟩ (.string ⟨(full p).toArray⟩)).drew := (Keeps.set w3 ga j (.string ⟨(full p).toArray⟩)).drew
      have h5K : (w3.setCell ⟨ga, j, none⟩ (.string ⟨(full p).toArray⟩)).drew.ownsRow 0 9 1 (.slice (some ⟨ga, 0, none⟩) d.K.length ck) d.K.length ((d.K.map strC).set j (.string ⟨(full p).toArray⟩)) := own_keepB (h2K.stored j (.string ⟨(full p).toArray⟩)).1 ((Keeps.refl No _).drew) (not_No _)
      refine ⟨rfl, fun g => F g ∨ (Value.slice a7 R.length c7).ownBlock = some g, ⟨.slice (some ⟨ga, 0, none⟩) d.K.length ck, .slice a7 R.length c7, ?_, ?_, ?_, .inl h4, fun g hg => ⟨.inl (h5 g hg).1, (h5 g hg).2⟩, fun g hg => ⟨.inr hg, by have := H7N.out g hg; omega⟩, fun g hg hg' => ?_, ?_, ?_, h10⟩, ?_, ?_⟩
      · rw [← HRF.out] at *
        exact hk35.blk hb3 (fun e => hgb e.symm)
      · simp only [List.length_set]
        simpa [List.map_set, strC] using h5K
      · rw [show (d.W.filter (offR (Int.toNat (j : Int)))) = R from HRF.out.symm]
        refine hk35.own (own_le hown3 (Nat.zero_le _)) (fun g hg e => ?_)
        have := H7N.out g hg
        omega
      · have h1' := H7N.out g hg'
        have h2' := (h8 g (h5 g hg).1)
        omega
      · intro g hg
        rcases hg with hg | hg
        · have := h8 g hg
          have := hk35.size
          omega
        · have := (hown3.lt g hg).2
          have := hk35.size
          omega
      · refine ⟨fun x hx => ?_, fun x hx => ?_⟩
        · rcases List.mem_or_eq_of_mem_set hx with h' | h'
          · exact h9.kw x h'
          · rw [h']; exact full_len _ hp16
        · have := h9.ww x (List.mem_filter.1 hx).1
          exact ⟨this.1, by simpa using this.2⟩
      · exact (hkw3.mono (T := F) (fun g _ hg => by rw [hg]; exact h4)).trans hk35 (fun g _ hg => by rw [hg]; exact hgF)
      · intro g hg
        rcases hg with hg | hg
        · exact .inl hg
        · exact .inr (H7N.out g hg)

theorem r_over (b : Nat) (F : Nat → Prop) (d : DS) (i : Int) (p : List UInt8) (w : World) (h : Rv w b F d) (hp : p.length ≤ 140737488351232) (hW : d.W.length ≤ 1099511627776) :
    Calls Tryd.prog 31 #[.pointer (some ⟨b, 0, none⟩), .int .i64 i, .string ⟨p.toArray⟩] w fun e w' => e = .returned (.int .i64 (d.over i p).2) ∧
      ∃ F', Rv w' b F' (d.over i p).1 ∧ Step F F' w w' := by
  unfold DS.over
  by_cases hr : rightD d.K.length i p.length = true
  · rw [if_pos hr]
    exact rover_ok b F d i p w h hr hW
  · rw [if_neg hr]
    have hrt := rright_any b F d i p w h hp
    rw [show rightD d.K.length i p.length = false from by simpa using hr] at hrt
    clear hr
    go_enter Tryd.func31, Tryd.ntmps31
    go_wp2_with fail
    refine hrt.mono ?_
    rintro e w1 ⟨rfl, rfl⟩
    go_wp2_with fail
    go_ret
    exact ⟨rfl, F, h, Step.refl _ _⟩

theorem strs_one1 (x : List UInt8) : ∀ u ∈ [[strC x]].flatten, u.oneCell' = true := by intro u hu; simp at hu; subst hu; rfl
set_option maxHeartbeats 1000000 in
theorem r_new (n : Nat) (w : World) (h1 : 1 ≤ n) (h2 : n ≤ 4096) :
    Calls Tryd.prog 29 #[.int .i64 (n : Int)] w fun e w' => ∃ b F, e = .returned (.pointer (some ⟨b, 0, none⟩)) ∧ Rv w' b F ⟨List.replicate n (full []), [], none⟩ ∧ (∀ i, F i → w.heap.size ≤ i) ∧ Keeps No w w' := by
  have hb0 := heap_alloc_new w (.cells #[.slice none 0 0, .slice none 0 0, .int .i64 (-1)] 123)
  have hk0 : Keeps No w (w.alloc (.cells #[.slice none 0 0, .slice none 0 0, .int .i64 (-1)] 123)) := (Keeps.refl No w).alloc _
  go_enter Tryd.func29, Tryd.ntmps29
  go_wp2_with fail
  generalize (w.alloc (.cells #[.slice none 0 0, .slice none 0 0, .int .i64 (-1)] 123)) = w0 at hb0 hk0 ⊢
  go_loopg [4] n (fun q i wr => ∃ (m : Nat) (vk : Value), m ≤ n ∧ q = n - m ∧ i = .int .i64 (m : Int) ∧ wr.heap[w.heap.size]? = some (.cells #[vk, .slice none 0 0, .int .i64 (-1)] 123 (0, 0)) ∧ wr.ownsRow (w.heap.size + 1) 9 1 vk m ((List.replicate m (full [])).map strC) ∧ Keeps No w wr)
  case atStart => exact ⟨0, _, Nat.zero_le _, rfl, rfl, hb0, World.ownsRow_nil _ _ _ _, hk0⟩
  case round =>
    obtain ⟨m, vk, hm, hq, rfl, hbr, hor, hkr⟩ := hrel
    have Hq := Lib.hid hq
    clear hq
    have hzr := (Array.getElem?_eq_some_iff.1 hbr).1
    by_cases hlt : m < n
    · obtain ⟨ak, ck, rfl, _, _⟩ := Sl.ofOwn hor
      have hnb : (Value.slice ak m ck).ownBlock ≠ some w.heap.size := fun e => by have := (hor.lt _ e).1; omega
      have HS : ∀ wx, Keeps (fun i => (Value.slice ak m ck).ownBlock = some i) wr wx → wx.cell? ⟨w.heap.size, 0, none⟩ = some (.slice ak m ck) := fun wx hx => cell_of_row wx _ 0 _ _ (0, 0) (hx.blk hbr hnb)
      have HS' := Lib.hid HS
      clear HS
      go_wp2_with fail
      refine region_L (fun wx => wx.cell? ⟨w.heap.size, 0, none⟩ = some (.slice ak m ck)) 10 (by kernel_rfl) (HS'.out _ (Keeps.refl _ _).drew) (fun hS => ?_)
      refine tkL (i := 0) (oi := ⟨some 12, _, _, _, _, _⟩) (v := ?_) rfl (by kernel_rfl) (fun _ _ _ h => h) (by assumption) (by rfl) (fun w hSw => ?_) ?_; rotate_left; (focus (first | (go_simp; done) | (go_simp; with_reducible rfl))); simp only [Act.put, List.setIfInBounds_toArray, List.set_cons_zero, List.set_cons_succ]
      refine tkL (i := 1) (oi := ⟨some 13, _, _, _, _, _⟩) (v := ?_) rfl (by kernel_rfl) (fun _ _ _ h => h) (by assumption) (by rfl) (fun w hSw => ?_) ?_; rotate_left; (focus (first | (go_simp; done) | (go_simp; with_reducible rfl))); simp only [Act.put, List.setIfInBounds_toArray, List.set_cons_zero, List.set_cons_succ]
      refine tkL (i := 2) (oi := ⟨some 14, _, _, _, _, _⟩) (v := ?_) rfl (by kernel_rfl) (fun _ _ _ h => h) (by assumption) (by rfl) (fun w hSw => ?_) ?_; rotate_left; (focus (first | (go_simp; done) | (go_simp; with_reducible rfl))); simp only [Act.put, List.setIfInBounds_toArray, List.set_cons_zero, List.set_cons_succ]
      refine tkL (i := 3) (oi := ⟨some 15, _, _, _, _, _⟩) (v := ?_) rfl (by kernel_rfl) (fun _ _ _ h => h) (by assumption) (by rfl) (fun w hSw => ?_) ?_; rotate_left; (focus (first | (go_simp; done) | (go_simp; with_reducible rfl))); simp only [Act.put, List.setIfInBounds_toArray, List.set_cons_zero, List.set_cons_succ]
      refine tkL (i := 4) (oi := ⟨some 16, _, _, _, _, _⟩) (v := ?_) rfl (by kernel_rfl) (fun _ _ _ h => h) (by assumption) (by rfl) (fun w hSw => ?_) ?_; rotate_left; (focus (first | (go_simp; done) | (go_simp; with_reducible rfl))); simp only [Act.put, List.setIfInBounds_toArray, List.set_cons_zero, List.set_cons_succ]
      refine aloneL (i := 5) (oi := ⟨some 17, _, _, _, _, _⟩) rfl (by kernel_rfl) (by rfl) (fun K hK => ?_); go_simp
      refine (rfull_any [] _ (by simp)).mono ?_
      rintro e w2 ⟨rfl, rfl⟩
      go_simp
      refine hK.out (fun wx => wx.cell? ⟨w.heap.size, 0, none⟩ = some (.slice ak m ck)) _ _ (fun _ h => h) (fun _ => HS'.out _ (Keeps.refl _ _).drew) ?_
      clear hK K hS
      intro hS
      replace hS := hS rfl
      refine aloneL (i := 6) (oi := ⟨some 18, _, _, _, _, _⟩) rfl (by kernel_rfl) (by rfl) (fun K hK => ?_); go_simp
      have hXA := ((Keeps.refl (fun i => (Value.slice ak m ck).ownBlock = some i) wr).drew).alloc (.cells #[.string ⟨(full []).toArray⟩] 9)
      have hkA : Keeps No wr (wr.drew.alloc (.cells #[.string ⟨(full []).toArray⟩] 9)) := ((Keeps.refl No wr).drew).alloc _
      refine hK.out (fun wx => wx.cell? ⟨w.heap.size, 0, none⟩ = some (.slice ak m ck)) _ _ (fun _ h => h) (fun _ => HS'.out _ hXA) ?_
      clear hK K hS
      intro hS
      replace hS := hS rfl
      refine aloneL (i := 7) (oi := ⟨some 19, _, _, _, _, _⟩) rfl (by kernel_rfl) (by rfl) (fun K hK => ?_)
      refine wp_app_ownK (.tmp 16) (.tmp 18) 120 rfl (w.heap.size + 1) 9 _ 1 16 Tryd.underlying120 string_infoD rfl (by decide) (by decide) _ m _ rfl (hkA.own hor (fun _ _ => not_No _)) _ 1 1 [[strC (full [])]] rfl (SlK.one wr.drew [strC (full [])] _ rfl) (strs_one1 _) (by omega) (by simp; omega) ?_
      intro v2 w2 hown2 hg2 hat2
      have hX2 := hXA.grown hg2 (fun k hk _ => hk)
      replace hown2 : w2.ownsRow (w.heap.size + 1) 9 1 v2 (m + 1) ((List.replicate (m + 1) (full [])).map strC) := by rw [List.replicate_succ', List.map_append]; simpa using hown2
      obtain ⟨a2, c2, rfl, _, _⟩ := Sl.ofOwn hown2
      have hb2 := hX2.blk hbr hnb
      have hc2 := cell_of_row w2 _ 0 _ _ (0, 0) hb2
      have hf2 := frozen_of_row w2 _ 0 _ _ hb2
      have Hown2 := Lib.hid hown2
      clear hown2 hat2
      refine hK.out (fun wx => wx.cell? ⟨w.heap.size, 0, none⟩ = some (.slice ak m ck)) _ _ (fun _ h => h) (fun _ => HS'.out _ hX2) ?_
      clear hK K hS
      intro hS
      replace hS := hS rfl
      refine aloneL (i := 8) (oi := ⟨some 20, _, _, _, _, _⟩) rfl (by kernel_rfl) (by rfl) (fun K hK => ?_); go_simp
      refine hK.out (fun wx => wx.cell? ⟨w.heap.size, 0, none⟩ = some (.slice ak m ck)) _ _ (fun _ h => h) (fun _ => hS) ?_
      clear hK K
      intro _
      refine tkL (i := 9) (oi := ⟨some 21, _, _, _, _, _⟩) (v := ?_) rfl (by kernel_rfl) (fun _ _ _ h => h) (by assumption) (by rfl) (fun w hSw => ?_) ?_; rotate_left; (focus (first | (go_simp; done) | (go_simp; with_reducible rfl))); simp only [Act.put, List.setIfInBounds_toArray, List.set_cons_zero, List.set_cons_succ]
      refine aloneL (i := 10) (oi := ⟨none, _, _, _, _, _⟩) rfl (by kernel_rfl) (by rfl) (fun K hK => ?_); go_simp
      refine hK.out (fun wx => wx.cell? ⟨w.heap.size, 0, none⟩ = some (.slice ak m ck)) _ _ (fun _ h => h) (fun e => absurd (show true = false from e) (by decide)) ?_
      clear hK K hS
      intro hS
      refine doneL (by kernel_rfl) ?_ _
      clear hS
      go_wp2_with fail
      go_roundg (n - (m + 1))
      case measure => have := Hq.out; omega
      case rel =>
        have hkb := Keeps.set w2 w.heap.size 0 (.slice a2 (m + 1) c2)
        refine ⟨m + 1, _, by omega, rfl, by go_num, heap_setCell_same w2 _ 0 _ _ _ hb2, hkb.own Hown2.out (fun g hg e => by have := (Hown2.out.lt g hg).1; omega), ?_⟩
        exact hkr.trans ((hX2.mono (T := fun i => w.heap.size ≤ i) (fun i _ h => by have := (hor.lt i h).1; omega)).trans hkb (fun i _ h => by rw [h]; exact Nat.le_refl _)) (fun i hi h => by omega)
    · obtain rfl : n = m := by omega
      go_wp2_with fail
      go_ret
      refine ⟨w.heap.size, fun i => i = w.heap.size ∨ vk.ownBlock = some i, rfl, ⟨vk, .slice none 0 0, hbr, ?_, World.ownsRow_nil _ _ _ _, .inl rfl, fun g hg => ⟨.inr hg, by have := (hor.lt g hg).1; omega⟩, fun g hg => by simp [Value.ownBlock] at hg, fun g hg => by simp [Value.ownBlock], fun i hi => ?_, ?_, fun q hq => by simp at hq⟩, fun i hi => ?_, hkr⟩
      · rw [List.length_replicate]; exact own_le hor (Nat.zero_le _)
      · rcases hi with rfl | hi
        · exact hzr
        · exact (hor.lt i hi).2
      · exact ⟨fun x hx => by rw [(List.mem_replicate.1 hx).2]; rfl, fun x hx => by simp at hx⟩
      · rcases hi with rfl | hi
        · exact Nat.le_refl _
        · have := (hor.lt i hi).1; omega
end Go.Proofs.YthimnkmoeonheaaDoor
