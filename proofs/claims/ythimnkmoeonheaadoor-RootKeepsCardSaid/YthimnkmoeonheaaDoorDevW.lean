/- The walks of package device that write. -/
import Derived.Test.YthimnkmoeonheaaDoorDev
import Derived.Great.BuildSlice
namespace Go.Proofs.YthimnkmoeonheaaDoor
open Go.RowKit
set_option linter.unusedSimpArgs false
set_option linter.unusedVariables false
set_option maxRecDepth 100000

theorem list16 (l : List Value) (h : l.length = 16) : ∃ a0 a1 a2 a3 a4 a5 a6 a7 a8 a9 a10 a11 a12 a13 a14 a15, l = [a0, a1, a2, a3, a4, a5, a6, a7, a8, a9, a10, a11, a12, a13, a14, a15] := by
  match l, h with
  | [a0, a1, a2, a3, a4, a5, a6, a7, a8, a9, a10, a11, a12, a13, a14, a15], _ => exact ⟨a0, a1, a2, a3, a4, a5, a6, a7, a8, a9, a10, a11, a12, a13, a14, a15, rfl⟩
theorem built_wr (i : Int) (l : List Value) (h : l.length = 16) : Tryd.prog.built 109 [(0, .int .i64 i), (1, .agg l.toArray)] = some (.int .i64 i :: l).toArray := by
  obtain ⟨a0, a1, a2, a3, a4, a5, a6, a7, a8, a9, a10, a11, a12, a13, a14, a15, rfl⟩ := list16 l h
  kernel_rfl
theorem fill_wr (x : Value) (l : List Value) (h : l.length = 16) : Instr.fill (fun i => some (i * 17, 17)) ((Array.range (1 * 17)).map ((Value.agg (.int .i64 0 :: List.replicate 16 (.int .u8 0)).toArray).cells[· % (Value.agg (.int .i64 0 :: List.replicate 16 (.int .u8 0)).toArray).cells.size]!)) [(0, .agg (x :: l).toArray)] = some (x :: l).toArray := by
  obtain ⟨a0, a1, a2, a3, a4, a5, a6, a7, a8, a9, a10, a11, a12, a13, a14, a15, rfl⟩ := list16 l h
  kernel_rfl
/-- 'write{i, b}', in a region that draws. -/
theorem wp_build_wr {w : World} {o : Oper} {ac : Act} {K : Act → World → Prop} {Q : Exit → Act → World → Prop} (x y : Operand) (ho : o.op = .build 109 #[(0, x), (1, y)])
    (i : Int) (l : List Value) (hx : ac.eval x = .int .i64 i) (hy : ac.eval y = .agg l.toArray) (hl : l.length = 16) (h : K (ac.put o.dst (.agg (.int .i64 i :: l).toArray)) w) : Oper.wp Tryd.prog o ac w K Q := by
  have hb : (Tryd.prog.built 109 (#[(0, x), (1, y)].map fun (i, x) => (i, ac.eval x)).toList) = some (.int .i64 i :: l).toArray := by
    simp only [List.map_toArray, List.map_cons, List.map_nil, hx, hy]
    exact built_wr i l hl
  refine wp_build _ _ ho (by rw [hb]; rfl) ?_
  rw [hb]
  exact h
/-- '[]write{x}', in a region that draws. -/
theorem wp_buildSlice_wr {w : World} {o : Oper} {ac : Act} {K : Act → World → Prop} {Q : Exit → Act → World → Prop} (y : Operand) (ho : o.op = .buildSlice 98 1 #[(0, y)])
    (x : WR) (hy : ac.eval y = .agg (wrC x).toArray) (hl : x.2.length = 16) (h : K (ac.put o.dst (.slice (some ⟨w.heap.size, 0, none⟩) 1 1)) (w.alloc (.cells (wrC x).toArray 109))) : Oper.wp Tryd.prog o ac w K Q := by
  obtain ⟨i0, hi, hz0, hz1, hz2⟩ := info_parts write_info
  refine wp_buildSlice _ 109 1 _ ho (wrC x).toArray i0 _ Tryd.underlying98 hi hz0 (by rw [hz1]; decide) (by rw [hz1]; decide) ?_ h
  rw [hz1]
  simp only [List.map_toArray, List.map_cons, List.map_nil, hy]
  exact fill_wr _ _ (by rw [blkC_len, hl])

theorem dwrite_nil (i : Int) (a : Option Addr) (n c : Nat) (w : World) :
    Calls Tryd.prog 40 #[.pointer none, .int .i64 i, .slice a n c] w fun e w' => e = .returned (.int .i64 1) ∧ w = w' := by
  go_enter Tryd.func40, Tryd.ntmps40
  go_wp2_with fail
  refine (dright_nil _ _ _ _ _).mono ?_
  rintro e w1 ⟨rfl, rfl⟩
  go_wp2_with fail
  go_ret
  exact ⟨rfl, rfl⟩
theorem dwrite_bad (b : Nat) (F : Nat → Prop) (d : DS) (i : Int) (a : Option Addr) (n c : Nat) (w : World) (h : Dv w b F d) (hr : rightD d.K.length i n = false) (hn : n ≤ 140737488351232) :
    Calls Tryd.prog 40 #[.pointer (some ⟨b, 0, none⟩), .int .i64 i, .slice a n c] w fun e w' => e = .returned (.int .i64 2) ∧ w = w' := by
  go_enter Tryd.func40, Tryd.ntmps40
  go_wp2_with fail
  refine (dright_no b F d i _ _ _ _ h hr hn).mono ?_
  rintro e w1 ⟨rfl, rfl⟩
  go_wp2_with fail
  go_ret
  exact ⟨rfl, rfl⟩
theorem dwrite_off (b : Nat) (F : Nat → Prop) (d : DS) (i : Int) (a : Option Addr) (n c : Nat) (w : World) (h : Dv w b F d) (hr : rightD d.K.length i n = true) (hn : n ≤ 140737488351232) (hl : d.lim = some 0) :
    Calls Tryd.prog 40 #[.pointer (some ⟨b, 0, none⟩), .int .i64 i, .slice a n c] w fun e w' => e = .returned (.int .i64 40) ∧ w = w' := by
  have ho := dcall_off b F d w h hl
  have HL := Lib.hid hl
  clear hl
  go_enter Tryd.func40, Tryd.ntmps40
  go_wp2_with fail
  refine (dright_yes b F d i _ _ _ _ h hr hn).mono ?_
  rintro e w1 ⟨rfl, rfl⟩
  clear hr
  go_wp2_with fail
  refine ho.mono ?_
  rintro e w1 ⟨rfl, rfl⟩
  go_wp2_with fail
  go_ret
  exact ⟨rfl, rfl⟩

set_option maxHeartbeats 1000000 in
theorem dwrite_ok (b : Nat) (F : Nat → Prop) (d : DS) (i : Int) (a : Option Addr) (n c : Nat) (p : List UInt8) (w : World) (h : Dv w b F d) (hr : rightD d.K.length i n = true) (hl : d.lim ≠ some 0)
    (hs : Sl w a n c (p.map byteV)) (hin : 0 < n → ¬ F (a.getD default).block) (hW : d.W.length ≤ 1099511627776) :
    Calls Tryd.prog 40 #[.pointer (some ⟨b, 0, none⟩), .int .i64 i, .slice a n c] w fun e w' => e = .returned (.int .i64 0) ∧
      ∃ F', Dv w' b F' ⟨d.K, d.W ++ [(i.toNat, full p)], (callD d.lim).1⟩ ∧ Step F F' w w' := by
  have hlen : p.length = n := by simpa using hs.len
  have hri := hr
  unfold rightD at hri
  simp at hri
  obtain ⟨⟨hi0, hiK⟩, hn16⟩ := hri
  obtain ⟨j, rfl⟩ : ∃ j : Nat, i = (j : Int) := ⟨i.toNat, by omega⟩
  have hjK : j < d.K.length := by omega
  have ho := dcall_on b F d w h hl
  have HFb : F b := by obtain ⟨_, _, _, _, _, _, _, _, _, _, h6, _⟩ := h; exact h6
  have HL := Lib.hid hl
  have Hlen := Lib.hid hlen
  clear hl hlen
  go_enter Tryd.func40, Tryd.ntmps40
  go_wp2_with fail
  refine (dright_yes b F d j _ _ _ _ h hr (by omega)).mono ?_
  rintro e w1 ⟨rfl, rfl⟩
  clear hr
  go_wp2_with fail
  refine ho.mono ?_
  rintro e w1 ⟨rfl, hd1, hk1⟩
  obtain ⟨kb, ck, vw, cl, h1, h2, h3, h4, h5, h5', h6, h7, h8, h9, h10, h11⟩ := hd1
  have hs1 := hs.keep hk1 (fun h0 e => hin h0 (by rw [e]; exact HFb))
  obtain ⟨aw, cw, rfl, hsw, haw⟩ := SlK.ofOwn (k := 17) (by decide) (by intro x hx; obtain ⟨e, he, rfl⟩ := List.mem_map.1 hx; simp [wrC, blkC, (h11.ww e he).1]) h3
  have hvb : (Value.slice aw d.W.length cw).ownBlock ≠ some b := fun e => (h8 b e).2.1 rfl
  have hvk : (Value.slice aw d.W.length cw).ownBlock ≠ some kb := fun e => (h8 kb e).2.2 rfl
  have HS : ∀ wx, Keeps (fun i => (Value.slice aw d.W.length cw).ownBlock = some i) w1 wx → wx.cell? ⟨b, 1, none⟩ = some (.slice aw d.W.length cw) := fun wx hx => cell_of_row wx b 1 _ _ (0, 0) (hx.blk h1 hvb)
  have HS' := Lib.hid HS
  have hfl := full_len p (by rw [Hlen.out]; exact hn16)
  have HFL := Lib.hid hfl
  clear HS hfl hsw
  go_wp2_with fail
  refine region_L (fun wx => wx.cell? ⟨b, 1, none⟩ = some (.slice aw d.W.length cw)) 13 (by kernel_rfl) (HS'.out _ (Keeps.refl _ _).drew) (fun hS => ?_)
  refine tkL (i := 0) (oi := ⟨some 21, _, _, _, _, _⟩) (v := ?_) rfl (by kernel_rfl) (fun _ _ _ h => h) (by assumption) (by rfl) (fun w hSw => ?_) ?_; rotate_left; (focus (first | (go_simp; done) | (go_simp; with_reducible rfl))); simp only [Act.put, List.setIfInBounds_toArray, List.set_cons_zero, List.set_cons_succ]
  refine tkL (i := 1) (oi := ⟨some 22, _, _, _, _, _⟩) (v := ?_) rfl (by kernel_rfl) (fun _ _ _ h => h) (by assumption) (by rfl) (fun w hSw => ?_) ?_; rotate_left; (focus (first | (go_simp; done) | (go_simp; with_reducible rfl))); simp only [Act.put, List.setIfInBounds_toArray, List.set_cons_zero, List.set_cons_succ]
  refine tkL (i := 2) (oi := ⟨some 23, _, _, _, _, _⟩) (v := ?_) rfl (by kernel_rfl) (fun _ _ _ h => h) (by assumption) (by rfl) (fun w hSw => ?_) ?_; rotate_left; (focus (first | (go_simp; done) | (go_simp; with_reducible rfl))); simp only [Act.put, List.setIfInBounds_toArray, List.set_cons_zero, List.set_cons_succ]
  refine tkL (i := 3) (oi := ⟨some 24, _, _, _, _, _⟩) (v := ?_) rfl (by kernel_rfl) (fun _ _ _ h => h) (by assumption) (by rfl) (fun w hSw => ?_) ?_; rotate_left; (focus (first | (go_simp; done) | (go_simp; with_reducible rfl))); simp only [Act.put, List.setIfInBounds_toArray, List.set_cons_zero, List.set_cons_succ]
  refine tkL (i := 4) (oi := ⟨some 25, _, _, _, _, _⟩) (v := ?_) rfl (by kernel_rfl) (fun _ _ _ h => h) (by assumption) (by rfl) (fun w hSw => ?_) ?_; rotate_left; (focus (first | (go_simp; done) | (go_simp; with_reducible rfl))); simp only [Act.put, List.setIfInBounds_toArray, List.set_cons_zero, List.set_cons_succ]
  refine tkL (i := 5) (oi := ⟨some 26, _, _, _, _, _⟩) (v := ?_) rfl (by kernel_rfl) (fun _ _ _ h => h) (by assumption) (by rfl) (fun w hSw => ?_) ?_; rotate_left; (focus (first | (go_simp; done) | (go_simp; with_reducible rfl))); simp only [Act.put, List.setIfInBounds_toArray, List.set_cons_zero, List.set_cons_succ]
  refine tkL (i := 6) (oi := ⟨some 27, _, _, _, _, _⟩) (v := ?_) rfl (by kernel_rfl) (fun _ _ _ h => h) (by assumption) (by rfl) (fun w hSw => ?_) ?_; rotate_left; (focus (first | (go_simp; done) | (go_simp; with_reducible rfl))); simp only [Act.put, List.setIfInBounds_toArray, List.set_cons_zero, List.set_cons_succ]
  refine aloneL (i := 7) (oi := ⟨some 28, _, _, _, _, _⟩) rfl (by kernel_rfl) (by rfl) (fun K hK => ?_); go_simp
  refine (filled_any a n c p _ (hs1.kept ((Keeps.refl No w1).drew)) (by omega)).mono ?_
  rintro e w2 ⟨rfl, hk2⟩
  have hX2 := ((Keeps.refl (fun i => (Value.slice aw d.W.length cw).ownBlock = some i) w1).drew).transNo hk2
  have hkw2 : Keeps No w1 w2 := ((Keeps.refl No w1).drew).transNo hk2
  go_simp
  refine hK.out (fun wx => wx.cell? ⟨b, 1, none⟩ = some (.slice aw d.W.length cw)) _ _ (fun _ h => h) (fun _ => HS'.out _ hX2) ?_
  clear hK K hS
  intro hS
  replace hS := hS rfl
  refine aloneL (i := 8) (oi := ⟨some 29, _, _, _, _, _⟩) rfl (by kernel_rfl) (by rfl) (fun K hK => ?_)
  refine wp_build_wr _ _ rfl (j : Int) (blkC (full p)) rfl rfl (by rw [blkC_len, HFL.out]) ?_
  refine hK.out (fun wx => wx.cell? ⟨b, 1, none⟩ = some (.slice aw d.W.length cw)) _ _ (fun _ h => h) (fun _ => HS'.out _ hX2) ?_
  clear hK K hS
  intro hS
  replace hS := hS rfl
  refine aloneL (i := 9) (oi := ⟨some 30, _, _, _, _, _⟩) rfl (by kernel_rfl) (by rfl) (fun K hK => ?_)
  refine wp_buildSlice_wr _ rfl (j, full p) rfl HFL.out ?_
  refine hK.out (fun wx => wx.cell? ⟨b, 1, none⟩ = some (.slice aw d.W.length cw)) _ _ (fun _ h => h) (fun _ => HS'.out _ (hX2.alloc _)) ?_
  clear hK K hS
  intro hS
  replace hS := hS rfl
  refine aloneL (i := 10) (oi := ⟨some 31, _, _, _, _, _⟩) rfl (by kernel_rfl) (by rfl) (fun K hK => ?_)
  refine wp_app_ownK (.tmp 25) (.tmp 30) 98 rfl 0 109 _ 17 24 Tryd.underlying98 write_info rfl (by decide) (by decide) _ d.W.length _ rfl ((hkw2.alloc _).own h3 (fun _ _ => not_No _)) _ 1 1 [wrC (j, full p)] rfl (SlK.one w2 _ _ (by simp [wrC, blkC_len, HFL.out])) ?h1c (by omega) (Nat.zero_le _) ?_
  case h1c => intro u hu; simp [wrC, blkC] at hu; rcases hu with rfl | ⟨y, _, rfl⟩ <;> rfl
  intro v2 w3 hown3 hg3 hat3
  have hX3 := (hX2.alloc (.cells (wrC (j, full p)).toArray 109)).grown hg3 (fun k hk _ => hk)
  have hL3 : (d.W.map wrC).flatten ++ [wrC (j, full p)].flatten = ((d.W ++ [(j, full p)]).map wrC).flatten := by simp
  rw [hL3] at hown3
  obtain ⟨a3, c3, rfl, _, _⟩ := SlK.ofOwn (k := 17) (by decide) (by
    intro x hx; obtain ⟨e, he, rfl⟩ := List.mem_map.1 hx
    rcases List.mem_append.1 he with he | he
    · simp [wrC, blkC, (h11.ww e he).1]
    · simp at he; subst he; simp [wrC, blkC_len, HFL.out]) hown3
  have hb3 := hX3.blk h1 hvb
  have hc3 := cell_of_row w3 b 1 _ _ (0, 0) hb3
  have hf3 := frozen_of_row w3 b 1 _ _ hb3
  have hz3 := hg3.size
  have hz2 := hkw2.size
  have Hat := Lib.hid hat3
  have HL3 := Lib.hid hL3
  clear hat3 hL3
  refine hK.out (fun wx => wx.cell? ⟨b, 1, none⟩ = some (.slice aw d.W.length cw)) _ _ (fun _ h => h) (fun _ => HS'.out _ hX3) ?_
  clear hK K hS
  intro hS
  replace hS := hS rfl
  refine aloneL (i := 11) (oi := ⟨some 32, _, _, _, _, _⟩) rfl (by kernel_rfl) (by rfl) (fun K hK => ?_); go_simp
  refine hK.out (fun wx => wx.cell? ⟨b, 1, none⟩ = some (.slice aw d.W.length cw)) _ _ (fun _ h => h) (fun _ => hS) ?_
  clear hK K
  intro _
  refine tkL (i := 12) (oi := ⟨some 33, _, _, _, _, _⟩) (v := ?_) rfl (by kernel_rfl) (fun _ _ _ h => h) (by assumption) (by rfl) (fun w hSw => ?_) ?_; rotate_left; (focus (first | (go_simp; done) | (go_simp; with_reducible rfl))); simp only [Act.put, List.setIfInBounds_toArray, List.set_cons_zero, List.set_cons_succ]
  refine aloneL (i := 13) (oi := ⟨none, _, _, _, _, _⟩) rfl (by kernel_rfl) (by rfl) (fun K hK => ?_); go_simp
  refine hK.out (fun wx => wx.cell? ⟨b, 1, none⟩ = some (.slice aw d.W.length cw)) _ _ (fun _ h => h) (fun e => absurd (show true = false from e) (by decide)) ?_
  clear hK K hS
  intro hS
  refine doneL (by kernel_rfl) ?_ _
  clear hS
  go_wp2_with fail
  go_ret
  have hz3' : w2.heap.size + 1 ≤ w3.heap.size := by simpa using hz3
  have hkb := Keeps.set w3 b 1 (.slice a3 (d.W.length + 1) c3)
  have hnew : ∀ g, (Value.slice a3 (d.W.length + 1) c3).ownBlock = some g → (Value.slice aw d.W.length cw).ownBlock = some g ∨ w1.heap.size ≤ g := fun g hg => (Hat.out g hg).elim .inl (fun h => .inr (by rw [h]; simp; omega))
  have hbl := h10 b h6
  have hkl := h10 kb h7
  have hkS : Keeps F w1 (w3.setCell ⟨b, 1, none⟩ (.slice a3 (d.W.length + 1) c3)) := (hX3.mono (fun g _ hg => (h8 g hg).1)).setCell (p := ⟨b, 1, none⟩) (fun _ => h6) _
  have hv2 : ∀ g, (Value.slice a3 (d.W.length + 1) c3).ownBlock = some g → g ≠ b ∧ g ≠ kb := fun g hg => by
    rcases hnew g hg with h | h
    · exact (h8 g h).2
    · exact ⟨by omega, by omega⟩
  refine ⟨rfl, fun g => F g ∨ (Value.slice a3 (d.W.length + 1) c3).ownBlock = some g, ⟨kb, ck, Value.slice a3 (d.W.length + 1) c3, cl, ?_, ?_, ?_, h4, h5, h5', .inl h6, .inl h7, fun g hg => ⟨.inr hg, hv2 g hg⟩, h9, ?_, ?_⟩, ?_, ?_⟩
  · exact heap_setCell_same w3 b 1 _ _ _ hb3
  · exact own_keepB (own_keepB h2 hX3 hvk) hkb (fun e => h9 e.symm)
  · refine hkb.own ?_ (fun g hg e => (hv2 g hg).1 e)
    rw [List.length_append]
    exact hown3
  · intro g hg
    rcases hg with hg | hg
    · exact Nat.lt_of_lt_of_le (h10 g hg) hkS.size
    · have := (hown3.lt g hg).2; simpa [World.setCell] using this
  · exact ⟨h11.kw, fun x hx => by
      rcases List.mem_append.1 hx with hx | hx
      · exact h11.ww x hx
      · simp at hx; subst hx; exact ⟨HFL.out, hjK⟩⟩
  · exact (hk1.mono (fun g _ hg => by rw [hg]; exact HFb)).trans hkS (fun _ _ h => h)
  · intro g hg
    rcases hg with hg | hg
    · exact .inl hg
    · rcases hnew g hg with h | h
      · exact .inl (h8 g h).1
      · exact .inr (Nat.le_trans hk1.size h)

/-- What keep does: the writes of the list are kept. -/
theorem dkeep_raw (b kb N ck : Nat) (K : List (List UInt8)) (L : List WR) (a : Option Addr) (n c : Nat) (w : World) (hc0 : w.cell? ⟨b, 0, none⟩ = some (.slice (some ⟨kb, 0, none⟩) N ck)) (hbk : b ≠ kb)
    (hown : w.ownsRow 0 107 16 (.slice (some ⟨kb, 0, none⟩) N ck) N (K.map blkC).flatten) (hKN : K.length = N) (hK : ∀ x ∈ K, x.length = 16) (hs : SlK w 17 a n c (L.map wrC)) (hL : ∀ x ∈ L, x.2.length = 16 ∧ x.1 < N) (hne : 0 < n → (a.getD default).block ≠ kb) :
    Calls Tryd.prog 60 #[.pointer (some ⟨b, 0, none⟩), .slice a n c] w fun e w' => e = .returned (.tuple #[]) ∧ w'.ownsRow 0 107 16 (.slice (some ⟨kb, 0, none⟩) N ck) N ((keepW K L).map blkC).flatten ∧ Keeps (fun i => i = kb) w w' := by
  have hlen : L.length = n := by simpa using hs.len
  have hwm := hs.max
  have hwl := hs.le
  unfold maxLen at hwm
  have hbl := World.block_lt_of_cell? _ _ hc0
  simp only at hbl
  have Hlen := Lib.hid hlen
  have HKN := Lib.hid hKN
  have HN := Lib.hid hne
  clear hlen hKN hne
  go_enter Tryd.func60, Tryd.ntmps60
  go_wp2_with fail
  go_loopg [8] n (fun q i wr => ∃ m : Nat, m ≤ n ∧ q = n - m ∧ i = .int .i64 (m : Int) ∧ wr.ownsRow 0 107 16 (.slice (some ⟨kb, 0, none⟩) N ck) N ((keepW K (L.take m)).map blkC).flatten ∧ Keeps (fun i => i = kb) w wr)
  case atStart => exact ⟨0, Nat.zero_le _, rfl, rfl, hown, Keeps.refl _ _⟩
  case round =>
    obtain ⟨m, hm, hq, rfl, hor, hkr⟩ := hrel
    have Hq := Lib.hid hq
    clear hq
    by_cases hlt : m < n
    · have hlt' : m < L.length := by rw [Hlen.out]; exact hlt
      have hsr := hs.keep hkr (fun h0 e => HN.out h0 e)
      have hix := hsr.ix (P := Tryd.prog) Tryd.underlying98 write_size hlt .i64
      obtain ⟨hld, _⟩ := hsr.load (P := Tryd.prog) (ty := 109) Tryd.underlying109 rfl write_size hlt
      obtain ⟨x, hx⟩ : ∃ x, x = L[m] := ⟨_, rfl⟩
      have hxc : (L.map wrC).getD m [] = wrC x := by rw [hx]; simp [hlt']
      obtain ⟨hx16, hxN⟩ := hL x (by rw [hx]; exact List.getElem_mem hlt')
      have hnext : keepW K (L.take (m + 1)) = (keepW K (L.take m)).set x.1 x.2 := by rw [List.take_succ_eq_append_getElem hlt', keepW_snoc, ← hx]
      have Hnext := Lib.hid hnext
      rw [hxc] at hld
      have hxs := wrA_size x hx16
      have HXS := Lib.hid hxs
      have HX16 := Lib.hid hx16
      obtain ⟨KR, hKR⟩ : ∃ KR, KR = keepW K (L.take m) := ⟨_, rfl⟩
      have hKRN : KR.length = N := by rw [hKR, keepW_len, HKN.out]
      have hKRw : ∀ x ∈ KR, x.length = 16 := by rw [hKR]; exact keepW_wide _ _ hK (fun y hy => (hL y (List.mem_of_mem_take hy)).1)
      rw [← hKR] at hor hnext
      have HKR := Lib.hid hKR
      have HKRN := Lib.hid hKRN
      have HNX := Lib.hid hnext
      clear hxc hx hnext hxs hx16 hsr hKR hKRN Hnext
      obtain ⟨ak, ck', hke, hsk, _⟩ := SlK.ofOwn (k := 16) (by decide) (by intro x hx; obtain ⟨e, he, rfl⟩ := List.mem_map.1 hx; rw [blkC_len]; exact hKRw e he) hor
      obtain ⟨rfl, rfl⟩ : some ⟨kb, 0, none⟩ = ak ∧ ck = ck' := by
        simp only [Value.slice.injEq] at hke
        exact ⟨hke.1, hke.2.2⟩
      have hixk := hsk.ix (P := Tryd.prog) Tryd.underlying97 block_size hxN .i64
      simp only [Option.getD_some, Addr.add_lit, Nat.zero_add] at hixk
      have hbN := heap_alloc_new wr (.cells #[.int .i64 0, .int .u8 0, .int .u8 0, .int .u8 0, .int .u8 0, .int .u8 0, .int .u8 0, .int .u8 0, .int .u8 0, .int .u8 0, .int .u8 0, .int .u8 0, .int .u8 0, .int .u8 0, .int .u8 0, .int .u8 0, .int .u8 0] 109)
      have hkN : Keeps No wr (wr.alloc (.cells #[.int .i64 0, .int .u8 0, .int .u8 0, .int .u8 0, .int .u8 0, .int .u8 0, .int .u8 0, .int .u8 0, .int .u8 0, .int .u8 0, .int .u8 0, .int .u8 0, .int .u8 0, .int .u8 0, .int .u8 0, .int .u8 0, .int .u8 0] 109)) := (Keeps.refl No wr).alloc _
      have hgr := (hor.lt kb rfl).2
      clear hke hsk
      go_wp2_with (first | (refine wpList_storeRow rfl 109 (.tmp 5) (.tmp 11) rfl wr.heap.size (wrC x).toArray rfl rfl 109 _ hbN (by rw [HXS.out]; exact write_size) (by rw [HXS.out]; rfl) (wrA_one x) ?_) | (refine wpList_loadV rfl 109 (.tmp 10) rfl _ rfl _ hld ?_))
      intro w5 hb5 hz5 hk5
      have hkr5 : Keeps No wr w5 := hkN.trans hk5 (fun i hi e => by omega)
      have hk05 := hkr.transNo hkr5
      have hor5 := own_keepB hor hkr5 (not_No _)
      have hcb := hk05.cell hc0 hbk
      clear hbN hkN hk5 hld hix hor
      have hz5' := hkr5.size
      go_wp2_with fail
      refine region_L (fun wx => Keeps No w5 wx ∧ wx.cell? ⟨b, 0, none⟩ = some (.slice (some ⟨kb, 0, none⟩) N ck) ∧ wx.cell? ⟨wr.heap.size, 0, none⟩ = some (.int .i64 (x.1 : Int)) ∧ (Instr.loadAt 107 (.pointer (some ⟨wr.heap.size, 1, none⟩))).run Tryd.prog wx = .ok (.agg (blkC x.2).toArray) wx) 9 (by kernel_rfl) (⟨(Keeps.refl _ _).drew, hcb, (wr_cells hb5 HX16.out).1, (wr_cells (w := w5.drew) hb5 HX16.out).2.1⟩) (fun hS => ?_)
      refine tkL (i := 0) (oi := ⟨some 12, _, _, _, _, _⟩) (v := ?_) rfl (by kernel_rfl) (fun _ _ _ h => h) (by assumption) (by rfl) (fun w hSw => ?_) ?_; rotate_left; (focus (first | (go_simp; done) | (go_simp; with_reducible rfl))); simp only [Act.put, List.setIfInBounds_toArray, List.set_cons_zero, List.set_cons_succ]
      refine tkL (i := 1) (oi := ⟨some 13, _, _, _, _, _⟩) (v := ?_) rfl (by kernel_rfl) (fun _ _ _ h => h) (by assumption) (by rfl) (fun w hSw => ?_) ?_; rotate_left; (focus (first | (go_simp; done) | (go_simp; with_reducible rfl))); simp only [Act.put, List.setIfInBounds_toArray, List.set_cons_zero, List.set_cons_succ]
      refine tkL (i := 2) (oi := ⟨some 14, _, _, _, _, _⟩) (v := ?_) rfl (by kernel_rfl) (fun _ _ _ h => h) (by assumption) (by rfl) (fun w hSw => ?_) ?_; rotate_left; (focus (first | (go_simp; done) | (go_simp; with_reducible rfl))); simp only [Act.put, List.setIfInBounds_toArray, List.set_cons_zero, List.set_cons_succ]
      refine tkL (i := 3) (oi := ⟨some 15, _, _, _, _, _⟩) (v := ?_) rfl (by kernel_rfl) (fun _ _ _ h => h) (by assumption) (by rfl) (fun w hSw => ?_) ?_; rotate_left; (focus (first | (go_simp; done) | (go_simp; with_reducible rfl))); simp only [Act.put, List.setIfInBounds_toArray, List.set_cons_zero, List.set_cons_succ]
      refine tkL (i := 4) (oi := ⟨some 16, _, _, _, _, _⟩) (v := ?_) rfl (by kernel_rfl) (fun _ _ _ h => h) (by assumption) (by rfl) (fun w hSw => ?_) ?_; rotate_left; (focus (first | (go_simp; done) | (go_simp; with_reducible rfl))); simp only [Act.put, List.setIfInBounds_toArray, List.set_cons_zero, List.set_cons_succ]
      refine tkL (i := 5) (oi := ⟨some 17, _, _, _, _, _⟩) (v := ?_) rfl (by kernel_rfl) (fun _ _ _ h => h) (by assumption) (by rfl) (fun w hSw => ?_) ?_; rotate_left; (focus (first | (go_simp; done) | (go_simp; with_reducible rfl))); simp only [Act.put, List.setIfInBounds_toArray, List.set_cons_zero, List.set_cons_succ]
      refine tkL (i := 6) (oi := ⟨some 18, _, _, _, _, _⟩) (v := ?_) rfl (by kernel_rfl) (fun _ _ _ h => h) (by assumption) (by rfl) (fun w hSw => ?_) ?_; rotate_left; (focus (first | (go_simp; done) | (go_simp; with_reducible rfl))); simp only [Act.put, List.setIfInBounds_toArray, List.set_cons_zero, List.set_cons_succ]
      refine aloneL (i := 7) (oi := ⟨some 19, _, _, _, _, _⟩) rfl (by kernel_rfl) (by rfl) (fun K hK => ?_)
      refine wp_loadV 107 (.tmp 18) rfl _ rfl _ hS.2.2.2 ?_
      refine hK.out (fun wx => Keeps No w5 wx ∧ wx.cell? ⟨b, 0, none⟩ = some (.slice (some ⟨kb, 0, none⟩) N ck) ∧ wx.cell? ⟨wr.heap.size, 0, none⟩ = some (.int .i64 (x.1 : Int)) ∧ (Instr.loadAt 107 (.pointer (some ⟨wr.heap.size, 1, none⟩))).run Tryd.prog wx = .ok (.agg (blkC x.2).toArray) wx) _ _ (fun _ h => h) (fun _ => hS) ?_
      clear hK K hS
      intro hS
      replace hS := hS rfl
      refine tkL (i := 8) (oi := ⟨some 20, _, _, _, _, _⟩) (v := ?_) rfl (by kernel_rfl) (fun _ _ _ h => h) (by assumption) (by rfl) (fun w hSw => ?_) ?_; rotate_left; (focus (first | (go_simp; done) | (go_simp; with_reducible rfl))); simp only [Act.put, List.setIfInBounds_toArray, List.set_cons_zero, List.set_cons_succ]
      refine aloneL (i := 9) (oi := ⟨none, _, _, _, _, _⟩) rfl (by kernel_rfl) (by rfl) (fun K hK => ?_)
      have hkS5 := hS.1
      refine wp_storeOwn 107 (.tmp 20) (.tmp 19) rfl 0 107 16 kb N ck (KR.map blkC) (own_keepB hor5 hS.1 (not_No _)) (by intro x hx; obtain ⟨e, he, rfl⟩ := List.mem_map.1 hx; rw [blkC_len]; exact hKRw e he) x.1 hxN (by rw [List.length_map, HKRN.out]) (blkC x.2).toArray (blkA_size _ HX16.out) (by rw [Addr.add_lit, Nat.zero_add]; rfl) rfl block_size (blkA_one _) ?_
      intro w6 hown6 hz6 hk6
      refine hK.out (fun wx => Keeps No w5 wx ∧ wx.cell? ⟨b, 0, none⟩ = some (.slice (some ⟨kb, 0, none⟩) N ck) ∧ wx.cell? ⟨wr.heap.size, 0, none⟩ = some (.int .i64 (x.1 : Int)) ∧ (Instr.loadAt 107 (.pointer (some ⟨wr.heap.size, 1, none⟩))).run Tryd.prog wx = .ok (.agg (blkC x.2).toArray) wx) _ _ (fun _ h => h) (fun e => absurd (show true = false from e) (by decide)) ?_
      clear hK K hS
      intro hS
      refine doneL (by kernel_rfl) ?_ _
      go_wp2_with fail
      go_roundg (n - (m + 1))
      case measure => have := Hq.out; omega
      case rel =>
        refine ⟨m + 1, by omega, rfl, by go_num, ?_, (hk05.transNo hkS5).trans hk6 (fun _ _ h => h)⟩
        rw [HNX.out]
        simpa [List.map_set] using hown6
    · obtain rfl : n = m := by omega
      go_wp2_with fail
      go_end0
      exact ⟨rfl, by rw [← Hlen.out, List.take_length] at hor; exact hor, hkr⟩

theorem dsync_nil (w : World) :
    Calls Tryd.prog 35 #[.pointer none] w fun e w' => e = .returned (.int .i64 1) ∧ w = w' := by
  go_enter Tryd.func35, Tryd.ntmps35
  go_wp2_with fail
  refine (dcall_nil _).mono ?_
  rintro e w1 ⟨rfl, rfl⟩
  go_wp2_with fail
  go_ret
  exact ⟨rfl, rfl⟩
theorem dsync_off (b : Nat) (F : Nat → Prop) (d : DS) (w : World) (h : Dv w b F d) (hl : d.lim = some 0) :
    Calls Tryd.prog 35 #[.pointer (some ⟨b, 0, none⟩)] w fun e w' => e = .returned (.int .i64 40) ∧ w = w' := by
  have ho := dcall_off b F d w h hl
  have HL := Lib.hid hl
  clear hl
  go_enter Tryd.func35, Tryd.ntmps35
  go_wp2_with fail
  refine ho.mono ?_
  rintro e w1 ⟨rfl, rfl⟩
  go_wp2_with fail
  go_ret
  exact ⟨rfl, rfl⟩
theorem dsync_ok (b : Nat) (F : Nat → Prop) (d : DS) (w : World) (h : Dv w b F d) (hl : d.lim ≠ some 0) :
    Calls Tryd.prog 35 #[.pointer (some ⟨b, 0, none⟩)] w fun e w' => e = .returned (.int .i64 0) ∧ Dv w' b F ⟨keepW d.K d.W, [], (callD d.lim).1⟩ ∧ Keeps F w w' := by
  have ho := dcall_on b F d w h hl
  have HFb : F b := by obtain ⟨_, _, _, _, _, _, _, _, _, _, h6, _⟩ := h; exact h6
  have HL := Lib.hid hl
  clear hl
  go_enter Tryd.func35, Tryd.ntmps35
  go_wp2_with fail
  refine ho.mono ?_
  rintro e w1 ⟨rfl, hd1, hk1⟩
  obtain ⟨kb, ck, vw, cl, h1, h2, h3, h4, h5, h5', h6, h7, h8, h9, h10, h11⟩ := hd1
  obtain ⟨aw, cw, rfl, hsw, haw⟩ := SlK.ofOwn (k := 17) (by decide) (by intro x hx; obtain ⟨e, he, rfl⟩ := List.mem_map.1 hx; simp [wrC, blkC, (h11.ww e he).1]) h3
  have hc0 := cell_of_row w1 b 0 _ _ (0, 0) h1
  have hc1 := cell_of_row w1 b 1 _ _ (0, 0) h1
  have hkp := dkeep_raw b kb _ ck d.K d.W aw _ cw w1 hc0 h9 h2 rfl h11.kw hsw h11.ww (fun h0 => by
    obtain ⟨g, hg, _⟩ := haw _ (hsw.isSome h0)
    have := (h8 g (by rw [hsw.isSome h0, hg]; rfl)).2.2
    rw [hg]; exact this)
  clear hsw haw hc0
  go_wp2_with fail
  refine hkp.mono ?_
  rintro e w2 ⟨rfl, hown2, hk2⟩
  have hb2 := hk2.blk h1 h9
  have hf2 := frozen_of_row w2 b 1 _ _ hb2
  have hc2 := cell_of_row w2 b 1 _ _ (0, 0) hb2
  go_wp2_with fail
  go_ret
  have hk3 := Keeps.set w2 b 1 (.slice none 0 0)
  have hkF : Keeps F w (w2.setCell ⟨b, 1, none⟩ (.slice none 0 0)) := ((hk1.mono (T := F) (fun g _ hg => by rw [hg]; exact HFb)).trans hk2 (fun g _ hg => by rw [hg]; exact h7)).trans hk3 (fun g _ hg => by rw [hg]; exact h6)
  refine ⟨rfl, ⟨kb, ck, .slice none 0 0, cl, ?_, ?_, World.ownsRow_nil _ _ _ _, h4, h5, h5', h6, h7, fun g hg => by simp [Value.ownBlock] at hg, h9, ?_, ?_⟩, hkF⟩
  · simp only [keepW_len]
    exact heap_setCell_same w2 b 1 _ _ _ hb2
  · simp only [keepW_len]
    exact own_keepB hown2 hk3 (fun e => h9 e.symm)
  · intro g hg
    have := h10 g hg
    have := hk2.size
    have := hk3.size
    omega
  · exact ⟨keepW_wide _ _ h11.kw (fun x hx => (h11.ww x hx).1), fun x hx => by simp at hx⟩

theorem dbeat_nil (w : World) :
    Calls Tryd.prog 59 #[.pointer none] w fun e w' => e = .returned (.int .i64 1) ∧ w = w' := by
  go_enter Tryd.func59, Tryd.ntmps59
  go_wp2_with fail
  refine (dcall_nil _).mono ?_
  rintro e w1 ⟨rfl, rfl⟩
  go_wp2_with fail
  go_ret
  exact ⟨rfl, rfl⟩
theorem dbeat_any (b : Nat) (F : Nat → Prop) (d : DS) (w : World) (h : Dv w b F d) :
    Calls Tryd.prog 59 #[.pointer (some ⟨b, 0, none⟩)] w fun e w' => e = .returned (.int .i64 d.beat.2) ∧ Dv w' b F d.beat.1 ∧ Keeps F w w' := by
  have HFb : F b := by obtain ⟨_, _, _, _, _, _, _, _, _, _, h6, _⟩ := h; exact h6
  by_cases hl : d.lim = some 0
  · have ho := dcall_off b F d w h hl
    have e1 : d.beat = (d, 40) := by unfold DS.beat; rw [hl]; obtain ⟨K, W, lim⟩ := d; simp at hl; subst hl; rfl
    rw [e1]
    clear hl e1
    go_enter Tryd.func59, Tryd.ntmps59
    go_wp2_with fail
    refine ho.mono ?_
    rintro e w1 ⟨rfl, rfl⟩
    go_wp2_with fail
    go_ret
    exact ⟨rfl, h, Keeps.refl _ _⟩
  · have ho := dcall_on b F d w h hl
    have e1 : d.beat.2 = 0 := by
      unfold DS.beat
      cases hd : d.lim with
      | none => rfl
      | some n => cases n with
        | zero => exact absurd hd hl
        | succ n => rfl
    rw [e1]
    clear hl e1
    go_enter Tryd.func59, Tryd.ntmps59
    go_wp2_with fail
    refine ho.mono ?_
    rintro e w1 ⟨rfl, hd1, hk1⟩
    go_wp2_with fail
    go_ret
    exact ⟨rfl, hd1, hk1.mono (fun g _ hg => by rw [hg]; exact HFb)⟩

theorem dlimit_nil (n : Int) (w : World) :
    Calls Tryd.prog 24 #[.pointer none, .int .i64 n] w fun e w' => e = .returned (.tuple #[]) ∧ w = w' := by
  go_enter Tryd.func24, Tryd.ntmps24
  go_wp2_with fail
  go_end0
  exact ⟨rfl, rfl⟩
theorem dlimit_any (b : Nat) (F : Nat → Prop) (d : DS) (n : Int) (w : World) (h : Dv w b F d) (hn : n ≤ 9223372036854775807) :
    Calls Tryd.prog 24 #[.pointer (some ⟨b, 0, none⟩), .int .i64 n] w fun e w' => e = .returned (.tuple #[]) ∧ Dv w' b F (d.limit n) ∧ Keeps F w w' := by
  obtain ⟨kb, ck, vw, cl, h1, h2, h3, h4, h5, h5', h6, h7, h8, h9, h10, h11⟩ := h
  have hf2 := frozen_of_row w b 2 _ _ h1
  have hf3 := frozen_of_row w b 3 _ _ h1
  have hc2 := cell_of_row w b 2 _ _ (0, 0) h1
  have hc3 := cell_of_row w b 3 _ _ (0, 0) h1
  obtain ⟨mx, hmx⟩ : ∃ mx, mx = max n 0 := ⟨_, rfl⟩
  have Hm := Lib.hid hmx
  clear hmx
  go_enter Tryd.func24, Tryd.ntmps24
  go_wp2_with fail
  go_end0
  have hb2 := heap_setCell_same w b 2 _ _ (.bool true) h1
  have hb3 := heap_setCell_same _ b 3 _ _ (.int .i64 (max n 0)) hb2
  have hkS : Keeps (fun g => g = b) w ((w.setCell ⟨b, 2, none⟩ (.bool true)).setCell ⟨b, 3, none⟩ (.int .i64 (max n 0))) := (Keeps.set w b 2 (.bool true)).trans (Keeps.set _ b 3 _) (fun _ _ h => h)
  refine ⟨rfl, ⟨kb, ck, vw, max n 0, hb3, own_keepB h2 hkS (fun e => h9 e.symm), hkS.own h3 (fun g hg => (h8 g hg).2.1), fun q hq => ?_, by omega, by omega, h6, h7, h8, h9, fun g hg => Nat.lt_of_lt_of_le (h10 g hg) hkS.size, ⟨h11.kw, h11.ww⟩⟩, hkS.mono (fun g _ hg => by rw [hg]; exact h6)⟩
  simp [DS.limit] at hq
  omega
end Go.Proofs.YthimnkmoeonheaaDoor
