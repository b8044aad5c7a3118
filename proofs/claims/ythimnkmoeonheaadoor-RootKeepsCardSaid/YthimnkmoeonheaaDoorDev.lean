/- The walks of package device; what a device is. -/
import Derived.Test.YthimnkmoeonheaaDoorMemB
import Derived.Test.YthimnkmoeonheaaDoorBytes
import Derived.Test.YthimnkmoeonheaaDoorOrd
import Derived.Test.YthimnkmoeonheaaDoorPlainDev
import Derived.Lib.MinMax
import Derived.Deep.LoopGhost
import Derived.Deep.DeepCutAuto
import Derived.Deep.CutRange
import Derived.Deep.CutBlock
namespace Go.Proofs.YthimnkmoeonheaaDoor
open Go.RowKit
set_option linter.unusedSimpArgs false
set_option linter.unusedVariables false
set_option maxRecDepth 100000

def blkC (b : List UInt8) : List Value := b.map byteV
def wrC (w : WR) : List Value := .int .i64 (w.1 : Int) :: blkC w.2
theorem blkC_len (b : List UInt8) : (blkC b).length = b.length := by simp [blkC]
theorem blkA_size (b : List UInt8) (h : b.length = 16) : (blkC b).toArray.size = 16 := by simp [blkC, h]
theorem wrA_size (w : WR) (h : w.2.length = 16) : (wrC w).toArray.size = 17 := by simp [wrC, blkC, h]
theorem blkA_one (b : List UInt8) : (blkC b).toArray.all (·.oneCell') = true := by simp [blkC, byteV, Value.oneCell']
theorem wrA_one (w : WR) : (wrC w).toArray.all (·.oneCell') = true := by simp [wrC, blkC, byteV, Value.oneCell']
theorem block_info : (Tryd.prog.info? 107).map (fun i => (i.zero, i.size, i.bytes)) = some (some (.agg (List.replicate 16 (.int .u8 0)).toArray), 16, 16) := by kernel_rfl
theorem write_info : (Tryd.prog.info? 109).map (fun i => (i.zero, i.size, i.bytes)) = some (some (.agg (.int .i64 0 :: List.replicate 16 (.int .u8 0)).toArray), 17, 24) := by kernel_rfl
theorem block_size : (Tryd.prog.info? 107).map (·.size) = some 16 := by kernel_rfl
theorem write_size : (Tryd.prog.info? 109).map (·.size) = some 17 := by kernel_rfl

/-- The device at block b holds d; F: its blocks. -/
def Dv (w : World) (b : Nat) (F : Nat → Prop) (d : DS) : Prop :=
  ∃ kb ck vw cl, w.heap[b]? = some (.cells #[.slice (some ⟨kb, 0, none⟩) d.K.length ck, vw, .bool d.lim.isSome, .int .i64 cl] 100 (0, 0)) ∧
    w.ownsRow 0 107 16 (.slice (some ⟨kb, 0, none⟩) d.K.length ck) d.K.length (d.K.map blkC).flatten ∧
    w.ownsRow 0 109 17 vw d.W.length (d.W.map wrC).flatten ∧ (∀ n, d.lim = some n → cl = (n : Int)) ∧ 0 ≤ cl ∧ cl ≤ 9223372036854775807 ∧
    F b ∧ F kb ∧ (∀ g, vw.ownBlock = some g → F g ∧ g ≠ b ∧ g ≠ kb) ∧ b ≠ kb ∧ (∀ i, F i → i < w.heap.size) ∧ d.Ok

theorem Dv.lt {w : World} {b : Nat} {F : Nat → Prop} {d : DS} (h : Dv w b F d) : ∀ i, F i → i < w.heap.size := by
  obtain ⟨_, _, _, _, _, _, _, _, _, _, _, _, _, _, h, _⟩ := h; exact h
theorem Dv.ok {w : World} {b : Nat} {F : Nat → Prop} {d : DS} (h : Dv w b F d) : d.Ok := by
  obtain ⟨_, _, _, _, _, _, _, _, _, _, _, _, _, _, _, h⟩ := h; exact h
theorem Dv.keep {w w' : World} {b : Nat} {F S : Nat → Prop} {d : DS} (h : Dv w b F d) (k : Keeps S w w') (hS : ∀ i, F i → ¬ S i) : Dv w' b F d := by
  obtain ⟨kb, ck, vw, cl, h1, h2, h3, h4, h5, h5', h6, h7, h8, h9, h10, h11⟩ := h
  exact ⟨kb, ck, vw, cl, k.blk h1 (hS _ h6), own_keepB h2 k (hS _ h7), k.own h3 (fun i hi => hS i (h8 i hi).1), h4, h5, h5', h6, h7, h8, h9, fun i hi => Nat.lt_of_lt_of_le (h10 i hi) k.size, h11⟩
theorem Dv.kept {w w' : World} {b : Nat} {F : Nat → Prop} {d : DS} (h : Dv w b F d) (k : Keeps No w w') : Dv w' b F d := h.keep k fun _ _ => not_No _

theorem dnew_bad (n : Int) (w : World) (h : n < 1 ∨ 4096 < n) :
    Calls Tryd.prog 13 #[.int .i64 n] w fun e w' => e = .returned (.tuple #[.pointer none, .int .i64 2]) ∧ w = w' := by
  rcases h with h | h
  · go_enter Tryd.func13, Tryd.ntmps13
    go_wp2_with fail
    go_ret2
    exact ⟨rfl, rfl⟩
  · have h' : ¬ n < 1 := by omega
    go_enter Tryd.func13, Tryd.ntmps13
    go_wp2_with fail
    go_ret2
    exact ⟨rfl, rfl⟩

theorem made_blocks (n : Nat) : (madeCells (List.replicate 16 (Value.int .u8 0)).toArray (n * 16)).toList = ((List.replicate n (full [])).map blkC).flatten := by
  have hz : blkC (full []) = List.replicate 16 (Value.int .u8 0) := by simp [full, blkC, byteV]
  apply List.ext_getElem?
  intro j
  rw [List.map_replicate, hz]
  by_cases hj : j < n * 16
  · have hd : j = j / 16 * 16 + j % 16 := by omega
    have hm : j % 16 < 16 := Nat.mod_lt _ (by decide)
    have hq : j / 16 < n := by omega
    have hr := flat_at (k := 16) (List.replicate n (List.replicate 16 (Value.int .u8 0))) (fun x hx => by rw [(List.mem_replicate.1 hx).2]; simp) (j / 16) (j % 16) hm
    rw [← hd] at hr
    rw [hr]
    simp [madeCells, hj, hq, hm]
  · rw [List.getElem?_eq_none (by simp [madeCells]; omega), List.getElem?_eq_none (by simp; omega)]

theorem dnew_ok (n : Nat) (w : World) (h1 : 1 ≤ n) (h2 : n ≤ 4096) :
    Calls Tryd.prog 13 #[.int .i64 (n : Int)] w fun e w' => ∃ b, e = .returned (.tuple #[.pointer (some ⟨b, 0, none⟩), .int .i64 0]) ∧ Dv w' b (fun i => w.heap.size ≤ i ∧ i < w'.heap.size) ⟨List.replicate n (full []), [], none⟩ ∧ Keeps No w w' := by
  go_enter Tryd.func13, Tryd.ntmps13
  obtain ⟨i0, hi, hz0, hz1, hz2⟩ := info_parts block_info
  go_wp2_with (at_make; refine wpList_make_full _ rfl _ _ 97 rfl w.heap.size 107 i0 _ 16 Tryd.underlying97 hi hz0 hz1 _ _ _ _ n rfl rfl ?hL ?hC ?b2 ?b3 ?b4 ?_)
  case hL => omega
  case hC => omega
  case b2 => rw [hz2]; omega
  case b3 => unfold maxLen; omega
  case b4 => exact Nat.le_refl _
  intro w1 hown hg
  go_wp2_with fail
  go_ret2
  have hkA : Keeps No w w1 := (Keeps.refl No w).grown hg (fun _ h => by cases h)
  have hz := hkA.size
  have hown' := hkA.size
  refine ⟨w1.heap.size, rfl, ⟨w.heap.size, n, .slice none 0 0, 0, ?_, ?_, World.ownsRow_nil _ _ _ _, fun m hm => by simp at hm, by omega, by omega, ?_, ?_, fun g h => by simp [Value.ownBlock] at h, ?_, fun i hi => hi.2, ?_⟩, hkA.alloc _⟩
  · rw [List.length_replicate]; exact heap_alloc_new w1 _
  · rw [List.length_replicate, ← made_blocks]
    exact own_le (hown.alloc _) (Nat.zero_le _)
  · exact ⟨hz, by simp⟩
  · have := (hown.lt w.heap.size rfl).2
    exact ⟨Nat.le_refl _, by simp; omega⟩
  · have := (hown.lt w.heap.size rfl).2
    omega
  · exact ⟨fun x hx => by rw [(List.mem_replicate.1 hx).2]; rfl, fun x hx => by simp at hx⟩

theorem dright_nil (i : Int) (a : Option Addr) (n c : Nat) (w : World) :
    Calls Tryd.prog 49 #[.pointer none, .int .i64 i, .slice a n c] w fun e w' => e = .returned (.int .i64 1) ∧ w = w' := by
  go_enter Tryd.func49, Tryd.ntmps49
  go_wp2_with fail
  go_ret
  exact ⟨rfl, rfl⟩
theorem dright_yes (b : Nat) (F : Nat → Prop) (d : DS) (i : Int) (a : Option Addr) (n c : Nat) (w : World) (h : Dv w b F d) (hr : rightD d.K.length i n = true) (hn : n ≤ 140737488351232) :
    Calls Tryd.prog 49 #[.pointer (some ⟨b, 0, none⟩), .int .i64 i, .slice a n c] w fun e w' => e = .returned (.int .i64 0) ∧ w = w' := by
  obtain ⟨kb, ck, vw, cl, h1, _⟩ := h
  have hc0 := cell_of_row w b 0 _ _ (0, 0) h1
  unfold rightD at hr
  simp at hr
  obtain ⟨⟨r1, r2⟩, r3⟩ := hr
  have q1 : ¬ i < 0 := by omega
  have q2 : ¬ (d.K.length : Int) ≤ i := by omega
  have q3 : ¬ (16 : Int) < (n : Int) := by omega
  clear r1 r2 r3 h1
  go_enter Tryd.func49, Tryd.ntmps49
  go_wp2_with fail
  go_ret
  exact ⟨rfl, rfl⟩
theorem dright_no (b : Nat) (F : Nat → Prop) (d : DS) (i : Int) (a : Option Addr) (n c : Nat) (w : World) (h : Dv w b F d) (hr : rightD d.K.length i n = false) (hn : n ≤ 140737488351232) :
    Calls Tryd.prog 49 #[.pointer (some ⟨b, 0, none⟩), .int .i64 i, .slice a n c] w fun e w' => e = .returned (.int .i64 2) ∧ w = w' := by
  obtain ⟨kb, ck, vw, cl, h1, _⟩ := h
  have hc0 := cell_of_row w b 0 _ _ (0, 0) h1
  unfold rightD at hr
  simp at hr
  clear h1
  go_enter Tryd.func49, Tryd.ntmps49
  by_cases q1 : i < 0
  · clear hr
    go_wp2_with fail
    go_ret
    exact ⟨rfl, rfl⟩
  by_cases q2 : (d.K.length : Int) ≤ i
  · clear hr
    go_wp2_with fail
    go_ret
    exact ⟨rfl, rfl⟩
  have q3 : (16 : Int) < (n : Int) := by have := hr (by omega) (by omega); omega
  clear hr
  go_wp2_with fail
  go_ret
  exact ⟨rfl, rfl⟩

theorem doff_any (b : Nat) (F : Nat → Prop) (d : DS) (w : World) (h : Dv w b F d) :
    Calls Tryd.prog 50 #[.pointer (some ⟨b, 0, none⟩)] w fun e w' => e = .returned (.bool (decide (d.lim = some 0))) ∧ w = w' := by
  obtain ⟨kb, ck, vw, cl, h1, _, _, h4, _⟩ := h
  have hc0 := cell_of_row w b 2 _ _ (0, 0) h1
  have hc1 := cell_of_row w b 3 _ _ (0, 0) h1
  clear h1
  cases hl : d.lim with
  | none =>
    rw [hl] at hc0
    have hl' := Lib.hid hl
    clear hl h4
    go_enter Tryd.func50, Tryd.ntmps50
    go_wp2_with fail
    go_ret
    exact ⟨rfl, rfl⟩
  | some n =>
    rw [hl] at hc0
    obtain rfl := h4 n hl
    have hl' := Lib.hid hl
    clear hl h4
    have hd : decide ((some n : Option Nat) = some 0) = ((n : Int) == 0) := by
      by_cases h0 : n = 0
      · subst h0; rfl
      · have : ((n : Int) == 0) = false := by rw [beq_eq_false_iff_ne]; omega
        rw [this]; simp [h0]
    have Hd := Lib.hid hd
    clear hd
    go_enter Tryd.func50, Tryd.ntmps50
    go_wp2_with fail
    go_ret
    exact ⟨by rw [Hd.out]; simp, rfl⟩

theorem dcall_nil (w : World) :
    Calls Tryd.prog 64 #[.pointer none] w fun e w' => e = .returned (.int .i64 1) ∧ w = w' := by
  go_enter Tryd.func64, Tryd.ntmps64
  go_wp2_with fail
  go_ret
  exact ⟨rfl, rfl⟩
theorem dcall_off (b : Nat) (F : Nat → Prop) (d : DS) (w : World) (h : Dv w b F d) (hl : d.lim = some 0) :
    Calls Tryd.prog 64 #[.pointer (some ⟨b, 0, none⟩)] w fun e w' => e = .returned (.int .i64 40) ∧ w = w' := by
  have hd : decide (d.lim = some 0) = true := decide_eq_true hl
  have ho := doff_any b F d w h
  rw [hd] at ho
  clear hd hl h
  go_enter Tryd.func64, Tryd.ntmps64
  go_wp2_with fail
  refine ho.mono ?_
  rintro e w1 ⟨rfl, rfl⟩
  go_wp2_with fail
  go_ret
  exact ⟨rfl, rfl⟩
theorem dcall_on (b : Nat) (F : Nat → Prop) (d : DS) (w : World) (h : Dv w b F d) (hl : d.lim ≠ some 0) :
    Calls Tryd.prog 64 #[.pointer (some ⟨b, 0, none⟩)] w fun e w' => e = .returned (.int .i64 0) ∧ Dv w' b F ⟨d.K, d.W, (callD d.lim).1⟩ ∧ Keeps (fun i => i = b) w w' := by
  have hd : decide (d.lim = some 0) = false := decide_eq_false hl
  have ho := doff_any b F d w h
  rw [hd] at ho
  clear hd
  have h' := h
  obtain ⟨kb, ck, vw, cl, h1, h2, h3, h4, h5, h5', h6, h7, h8, h9, h10, h11⟩ := h
  have hc0 := cell_of_row w b 2 _ _ (0, 0) h1
  have hc1 := cell_of_row w b 3 _ _ (0, 0) h1
  have hfr := frozen_of_row w b 3 _ _ h1
  cases hn : d.lim with
  | none =>
    rw [hn] at hc0
    have Hn := Lib.hid hn
    clear hn hl h4
    go_enter Tryd.func64, Tryd.ntmps64
    go_wp2_with fail
    refine ho.mono ?_
    rintro e w1 ⟨rfl, rfl⟩
    go_wp2_with fail
    go_ret
    refine ⟨rfl, ?_, Keeps.refl _ _⟩
    rw [show (⟨d.K, d.W, (callD none).1⟩ : DS) = d from by rw [show (callD none).1 = none from rfl, ← Hn.out]]
    exact h'
  | some n =>
    rw [hn] at hc0
    obtain rfl := h4 n hn
    have hn0 : n ≠ 0 := fun e => hl (by rw [hn, e])
    obtain ⟨m, rfl⟩ : ∃ m, n = m + 1 := ⟨n - 1, by omega⟩
    have Hn := Lib.hid hn
    clear hn hl h4 hn0
    go_enter Tryd.func64, Tryd.ntmps64
    go_wp2_with fail
    refine ho.mono ?_
    rintro e w1 ⟨rfl, rfl⟩
    go_wp2_with fail
    go_ret
    rw [Hn.out] at h1
    have hk := Keeps.set w b 3 (.int .i64 (m : Int))
    exact ⟨rfl, ⟨kb, ck, vw, m, heap_setCell_same w b 3 _ _ _ h1, own_keepB h2 hk (fun e => h9 e.symm), hk.own h3 (fun i hi => (h8 i hi).2.1), fun q hq => by cases hq; rfl, by omega, by omega, h6, h7, h8, h9, fun i hi => Nat.lt_of_lt_of_le (h10 i hi) hk.size, ⟨h11.kw, h11.ww⟩⟩, hk⟩

theorem byte_infoD : (Tryd.prog.info? 5).map (fun i => (i.zero, i.size, i.bytes)) = some (some (.int .u8 0), 1, 1) := by kernel_rfl
/-- A byte list filled up to a block. -/
theorem filled_any (a : Option Addr) (n c : Nat) (b : List UInt8) (w : World) (hs : Sl w a n c (b.map byteV)) (hn : n ≤ 16) :
    Calls Tryd.prog 54 #[.slice a n c] w fun e w' => e = .returned (.agg (blkC (full b)).toArray) ∧ Keeps No w w' := by
  have hlen : b.length = n := by simpa using hs.len
  go_enter Tryd.func54, Tryd.ntmps54
  have hb2 := heap_alloc2_new w (.cells #[.int .u8 0, .int .u8 0, .int .u8 0, .int .u8 0, .int .u8 0, .int .u8 0, .int .u8 0, .int .u8 0, .int .u8 0, .int .u8 0, .int .u8 0, .int .u8 0, .int .u8 0, .int .u8 0, .int .u8 0, .int .u8 0] 107) (.cells #[.int .u8 0, .int .u8 0, .int .u8 0, .int .u8 0, .int .u8 0, .int .u8 0, .int .u8 0, .int .u8 0, .int .u8 0, .int .u8 0, .int .u8 0, .int .u8 0, .int .u8 0, .int .u8 0, .int .u8 0, .int .u8 0] 107)
  have hb1 := heap_alloc2_old w (.cells #[.int .u8 0, .int .u8 0, .int .u8 0, .int .u8 0, .int .u8 0, .int .u8 0, .int .u8 0, .int .u8 0, .int .u8 0, .int .u8 0, .int .u8 0, .int .u8 0, .int .u8 0, .int .u8 0, .int .u8 0, .int .u8 0] 107) (.cells #[.int .u8 0, .int .u8 0, .int .u8 0, .int .u8 0, .int .u8 0, .int .u8 0, .int .u8 0, .int .u8 0, .int .u8 0, .int .u8 0, .int .u8 0, .int .u8 0, .int .u8 0, .int .u8 0, .int .u8 0, .int .u8 0] 107)
  have hkA : Keeps No w ((w.alloc (.cells #[.int .u8 0, .int .u8 0, .int .u8 0, .int .u8 0, .int .u8 0, .int .u8 0, .int .u8 0, .int .u8 0, .int .u8 0, .int .u8 0, .int .u8 0, .int .u8 0, .int .u8 0, .int .u8 0, .int .u8 0, .int .u8 0] 107)).alloc (.cells #[.int .u8 0, .int .u8 0, .int .u8 0, .int .u8 0, .int .u8 0, .int .u8 0, .int .u8 0, .int .u8 0, .int .u8 0, .int .u8 0, .int .u8 0, .int .u8 0, .int .u8 0, .int .u8 0, .int .u8 0, .int .u8 0] 107)) := ((Keeps.refl No w).alloc _).alloc _
  have hsA := hs.kept hkA
  have Hlen := Lib.hid hlen
  clear hlen
  have hpos : 0 < (b.map byteV).length → some (⟨w.heap.size + 1, 0, none⟩ : Addr) = some ⟨w.heap.size + 1, 0, none⟩ ∧ ∃ ad, a = some ad ∧ ∀ j v, (b.map byteV)[j]? = some v → ((w.alloc (.cells #[.int .u8 0, .int .u8 0, .int .u8 0, .int .u8 0, .int .u8 0, .int .u8 0, .int .u8 0, .int .u8 0, .int .u8 0, .int .u8 0, .int .u8 0, .int .u8 0, .int .u8 0, .int .u8 0, .int .u8 0, .int .u8 0] 107)).alloc (.cells #[.int .u8 0, .int .u8 0, .int .u8 0, .int .u8 0, .int .u8 0, .int .u8 0, .int .u8 0, .int .u8 0, .int .u8 0, .int .u8 0, .int .u8 0, .int .u8 0, .int .u8 0, .int .u8 0, .int .u8 0, .int .u8 0] 107)).cell? (ad.add j) = some v := by
    intro h0
    have hl : (b.map byteV).length = n := hsA.len
    have hsome := hsA.isSome (i := 0) (by omega)
    refine ⟨rfl, _, hsome, fun j v hv => ?_⟩
    have hj : j < n := by have := (List.getElem?_eq_some_iff.1 hv).1; omega
    rw [hsA.cell j hj, hv]
  have Hpos := Lib.hid hpos
  have HlB := Lib.hid hsA.len
  clear hpos
  go_wp2_with (refine wpList_copy_splice rfl (.tmp 4) (.tmp 5) 35 35 rfl 5 Tryd.underlying35 (by kernel_rfl) _ _ _ _ _ _ rfl rfl (w.heap.size + 1) 0 [.int .u8 0, .int .u8 0, .int .u8 0, .int .u8 0, .int .u8 0, .int .u8 0, .int .u8 0, .int .u8 0, .int .u8 0, .int .u8 0, .int .u8 0, .int .u8 0, .int .u8 0, .int .u8 0, .int .u8 0, .int .u8 0] 107 hb2 (b.map byteV) (by rw [HlB.out]; exact (Nat.min_eq_left hn).symm) Hpos.out (by rw [HlB.out]; simpa using hn) (byteV_one b) (w.heap.size + 1) _ (Below.refl _ _) (Nat.le_refl _) ?_)
  intro w3 H3 hbl
  have h3 := H3.out
  rw [show splice [.int .u8 0, .int .u8 0, .int .u8 0, .int .u8 0, .int .u8 0, .int .u8 0, .int .u8 0, .int .u8 0, .int .u8 0, .int .u8 0, .int .u8 0, .int .u8 0, .int .u8 0, .int .u8 0, .int .u8 0, .int .u8 0] 0 (b.map byteV) = blkC (full b) from by
    unfold splice blkC full
    have hb : b.length ≤ 16 := by rw [Hlen.out]; exact hn
    rw [List.take_zero, List.nil_append, List.map_append, List.map_replicate]
    congr 1
    apply List.ext_getElem?
    intro j
    have e : ([.int .u8 0, .int .u8 0, .int .u8 0, .int .u8 0, .int .u8 0, .int .u8 0, .int .u8 0, .int .u8 0, .int .u8 0, .int .u8 0, .int .u8 0, .int .u8 0, .int .u8 0, .int .u8 0, .int .u8 0, .int .u8 0] : List Value) = List.replicate 16 (.int .u8 0) := rfl
    rw [e, List.getElem?_drop, List.length_map]
    by_cases hj : j < 16 - b.length
    · rw [List.getElem?_replicate, List.getElem?_replicate, if_pos (by omega), if_pos hj]; rfl
    · rw [List.getElem?_replicate, List.getElem?_replicate, if_neg (by omega), if_neg hj]] at h3
  have hk3 : Keeps (fun k => k = w.heap.size + 1) ((w.alloc (.cells #[.int .u8 0, .int .u8 0, .int .u8 0, .int .u8 0, .int .u8 0, .int .u8 0, .int .u8 0, .int .u8 0, .int .u8 0, .int .u8 0, .int .u8 0, .int .u8 0, .int .u8 0, .int .u8 0, .int .u8 0, .int .u8 0] 107)).alloc (.cells #[.int .u8 0, .int .u8 0, .int .u8 0, .int .u8 0, .int .u8 0, .int .u8 0, .int .u8 0, .int .u8 0, .int .u8 0, .int .u8 0, .int .u8 0, .int .u8 0, .int .u8 0, .int .u8 0, .int .u8 0, .int .u8 0] 107)) w3 :=
    ⟨hbl.os, hbl.tape, hbl.output, hbl.size, fun k hk hne => hbl.block k (by simp at hk; omega)⟩
  have hb3 := hk3.blk hb1 (by omega)
  have hfl := full_len b (by rw [Hlen.out]; exact hn)
  have hfs := blkA_size _ hfl
  have hfo := blkA_one (full b)
  obtain ⟨fb, hfb⟩ : ∃ fb, fb = blkC (full b) := ⟨_, rfl⟩
  rw [← hfb] at h3 hfs hfo
  have HF := Lib.hid hfb
  have HS := Lib.hid hfs
  have HO := Lib.hid hfo
  have HH := Lib.hid h3
  clear hfb hfs hfo h3 H3 hb1 hb2 hfl
  go_wp2_with (first | (refine wpList_storeRow rfl 107 (.tmp 2) (.tmp 7) rfl w.heap.size fb.toArray rfl rfl 107 _ hb3 (by rw [HS.out]; exact block_size) (by rw [HS.out]; rfl) HO.out ?_) | (refine wpList_load_row rfl 107 (.tmp 3) rfl _ rfl _ fb.toArray _ _ HH.out Tryd.underlying107 rfl (by rw [HS.out]; exact block_size) ?_))
  intro w4 hb4 hz4 hk4
  go_wp2_with fail
  (try simp only [Exit.inBlock, Exit.then]); refine bodyPost_ret (results_cell_row rfl _ _ _ _ _ _ _ rfl hb4 Tryd.underlying107 rfl (by rw [HS.out]; exact block_size)) rfl ?_
  exact ⟨by rw [HF.out], (hkA.trans hk3 (fun i hi e => by omega)).trans hk4 (fun i hi e => by omega)⟩

theorem Sl.ofRow {w : World} {g : Nat} {xs : List Value} {t : TypeId} (h : w.heap[g]? = some (.cells xs.toArray t (0, 0))) (n : Nat) (hn : xs.length = n) (hm : n ≤ maxLen) : Sl w (some ⟨g, 0, Option.none⟩) n n xs := by
  refine ⟨hn, Nat.le_refl _, hm, fun h => by simp at h, fun i hi => ?_⟩
  show w.cell? ((⟨g, 0, Option.none⟩ : Addr).add i) = _
  rw [Addr.add_lit, Nat.zero_add, cell_of_row w g i _ t (0, 0) h]
  simp
theorem wr_cells {w : World} {g : Nat} {x : WR} {t : TypeId} (h : w.heap[g]? = some (.cells (wrC x).toArray t (0, 0))) (hx : x.2.length = 16) :
    w.cell? ⟨g, 0, none⟩ = some (.int .i64 (x.1 : Int)) ∧ (Instr.loadAt 107 (.pointer (some ⟨g, 1, none⟩))).run Tryd.prog w = .ok (.agg (blkC x.2).toArray) w ∧
      (Instr.loadAt 109 (.pointer (some ⟨g, 0, none⟩))).run Tryd.prog w = .ok (.agg (wrC x).toArray) w := by
  refine ⟨by rw [cell_of_row w g 0 _ _ (0, 0) h]; simp [wrC], ?_, ?_⟩
  · refine (load_cells (P := Tryd.prog) Tryd.underlying107 rfl block_size ⟨g, 1, none⟩ (blkC x.2) (by rw [blkC_len, hx]) fun j v hv => ?_).1
    rw [Addr.add_lit, cell_of_row w g (1 + j) _ _ (0, 0) h, Nat.add_comm]
    simpa [wrC] using hv
  · refine (load_cells (P := Tryd.prog) Tryd.underlying109 rfl write_size ⟨g, 0, none⟩ (wrC x) (by simp [wrC, blkC_len, hx]) fun j v hv => ?_).1
    rw [Addr.add_lit, cell_of_row w g (0 + j) _ _ (0, 0) h, Nat.zero_add]
    simpa using hv

theorem dread_nil (i : Int) (w : World) :
    Calls Tryd.prog 17 #[.pointer none, .int .i64 i] w fun e w' => e = .returned (.tuple #[.slice none 0 0, .int .i64 1]) ∧ w = w' := by
  go_enter Tryd.func17, Tryd.ntmps17
  go_wp2_with fail
  refine (dright_nil _ _ _ _ _).mono ?_
  rintro e w1 ⟨rfl, rfl⟩
  go_wp2_with fail
  go_ret2
  exact ⟨rfl, rfl⟩
theorem dread_bad (b : Nat) (F : Nat → Prop) (d : DS) (i : Int) (w : World) (h : Dv w b F d) (hr : rightD d.K.length i 0 = false) :
    Calls Tryd.prog 17 #[.pointer (some ⟨b, 0, none⟩), .int .i64 i] w fun e w' => e = .returned (.tuple #[.slice none 0 0, .int .i64 2]) ∧ w = w' := by
  go_enter Tryd.func17, Tryd.ntmps17
  go_wp2_with fail
  refine (dright_no b F d i _ _ _ _ h hr (by omega)).mono ?_
  rintro e w1 ⟨rfl, rfl⟩
  go_wp2_with fail
  go_ret2
  exact ⟨rfl, rfl⟩
theorem dread_off (b : Nat) (F : Nat → Prop) (d : DS) (i : Int) (w : World) (h : Dv w b F d) (hr : rightD d.K.length i 0 = true) (hl : d.lim = some 0) :
    Calls Tryd.prog 17 #[.pointer (some ⟨b, 0, none⟩), .int .i64 i] w fun e w' => e = .returned (.tuple #[.slice none 0 0, .int .i64 40]) ∧ w = w' := by
  have ho := doff_any b F d w h
  rw [decide_eq_true hl] at ho
  have HL := Lib.hid hl
  clear hl
  go_enter Tryd.func17, Tryd.ntmps17
  go_wp2_with fail
  refine (dright_yes b F d i _ _ _ _ h hr (by omega)).mono ?_
  rintro e w1 ⟨rfl, rfl⟩
  clear hr
  go_wp2_with fail
  refine ho.mono ?_
  rintro e w1 ⟨rfl, rfl⟩
  go_wp2_with fail
  go_ret2
  exact ⟨rfl, rfl⟩
theorem dread_ok (b : Nat) (F : Nat → Prop) (d : DS) (i : Int) (w : World) (h : Dv w b F d) (hr : rightD d.K.length i 0 = true) (hl : d.lim ≠ some 0) :
    Calls Tryd.prog 17 #[.pointer (some ⟨b, 0, none⟩), .int .i64 i] w fun e w' =>
      ∃ v, e = .returned (.tuple #[v, .int .i64 0]) ∧ w'.ownsRow w.heap.size 5 1 v 16 ((d.at_ i.toNat).map byteV) ∧ Keeps No w w' := by
  have ho := doff_any b F d w h
  rw [decide_eq_false hl] at ho
  have h' := h
  have hri := hr
  unfold rightD at hri
  simp at hri
  obtain ⟨j, rfl⟩ : ∃ j : Nat, i = (j : Int) := ⟨i.toNat, by omega⟩
  have hjK : j < d.K.length := by omega
  obtain ⟨kb, ck, vw, cl, h1, h2, h3, h4, h5, h5', h6, h7, h8, h9, h10, h11⟩ := h
  obtain ⟨ak, ck', hke, hsk, _⟩ := SlK.ofOwn (k := 16) (by decide) (by intro x hx; obtain ⟨e, he, rfl⟩ := List.mem_map.1 hx; rw [blkC_len]; exact h11.kw e he) h2
  obtain ⟨rfl, rfl⟩ : some ⟨kb, 0, none⟩ = ak ∧ ck = ck' := by
    simp only [Value.slice.injEq] at hke
    exact ⟨hke.1, hke.2.2⟩
  obtain ⟨aw, cw, rfl, hsw, _⟩ := SlK.ofOwn (k := 17) (by decide) (by intro x hx; obtain ⟨e, he, rfl⟩ := List.mem_map.1 hx; simp [wrC, blkC, (h11.ww e he).1]) h3
  have hwm := hsw.max
  have hwl := hsw.le
  unfold maxLen at hwm
  have hc0 := cell_of_row w b 0 _ _ (0, 0) h1
  have hc1 := cell_of_row w b 1 _ _ (0, 0) h1
  have hix := hsk.ix (P := Tryd.prog) Tryd.underlying97 block_size hjK .i64
  obtain ⟨hld, _⟩ := hsk.load (P := Tryd.prog) (ty := 107) Tryd.underlying107 rfl block_size hjK
  have hxc : (d.K.map blkC).getD j [] = blkC (d.K.getD j []) := by simp [hjK]
  rw [hxc] at hld
  simp only [Option.getD_some, Addr.add_lit, Nat.zero_add] at hix hld
  have hk16 : (d.K.getD j []).length = 16 := h11.kw _ (by simp [hjK])
  obtain ⟨k0, hk0⟩ : ∃ k0, k0 = d.K.getD j [] := ⟨_, rfl⟩
  rw [← hk0] at hld hk16
  have HK0 := Lib.hid hk0
  have hks := blkA_size k0 hk16
  have hko := blkA_one k0
  have HK16 := Lib.hid hk16
  clear hk0 hk16
  clear hri hxc hke h2 h3 h4 h5 h5' h6 h7 h8 h9 h10
  have HL := Lib.hid hl
  clear hl
  go_enter Tryd.func17, Tryd.ntmps17
  go_wp2_with fail
  refine (dright_yes b F d j _ _ _ _ h' hr (by omega)).mono ?_
  rintro e w1 ⟨rfl, rfl⟩
  clear hr
  go_wp2_with fail
  refine ho.mono ?_
  rintro e w1 ⟨rfl, rfl⟩
  have hbB := heap_alloc_new w (.cells #[.int .u8 0, .int .u8 0, .int .u8 0, .int .u8 0, .int .u8 0, .int .u8 0, .int .u8 0, .int .u8 0, .int .u8 0, .int .u8 0, .int .u8 0, .int .u8 0, .int .u8 0, .int .u8 0, .int .u8 0, .int .u8 0] 107)
  go_wp2_with (first | (refine wpList_storeRow rfl 107 (.tmp 7) (.tmp 24) rfl w.heap.size (blkC k0).toArray rfl rfl 107 _ hbB (by rw [hks]; exact block_size) (by rw [hks]; rfl) hko ?_) | (refine wpList_loadV rfl 107 (.tmp 23) rfl _ rfl _ hld ?_))
  intro w2 hb2 hz2 hk2
  have hk02 : Keeps No w w2 := ((Keeps.refl No w).alloc _).trans hk2 (fun i hi e => by omega)
  have hc1' := hk02.cell hc1 (not_No _)
  have hsw2 := hsw.kept hk02
  clear hc1 hld hix hc0 hbB hk2
  go_wp2_with fail
  go_loopg [30] d.W.length (fun q i wr => ∃ m : Nat, m ≤ d.W.length ∧ q = d.W.length - m ∧ i = .int .i64 (m : Int) ∧ wr.heap[w.heap.size]? = some (.cells (blkC (lastW (d.W.take m) j k0)).toArray 107 (0, 0)) ∧ Keeps No w wr)
  case atStart => exact ⟨0, Nat.zero_le _, rfl, rfl, hb2, hk02⟩
  case round =>
    obtain ⟨m, hm, hq, rfl, hbr, hkr⟩ := hrel
    have hcur : (lastW (d.W.take m) j k0).length = 16 := lastW_len _ (fun x hx => (h11.ww x (List.mem_of_mem_take hx)).1) _ _ HK16.out
    obtain ⟨cur, hcu⟩ : ∃ cur, cur = lastW (d.W.take m) j k0 := ⟨_, rfl⟩
    rw [← hcu] at hbr hcur
    have HC := Lib.hid hcu
    have Hq := Lib.hid hq
    have hcs := blkA_size cur hcur
    have HCS := Lib.hid hcs
    have HCL := Lib.hid hcur
    clear hcu hq hcs hcur
    by_cases hlt : m < d.W.length
    · have hsr := hsw.kept hkr
      have hix := hsr.ix (P := Tryd.prog) Tryd.underlying98 write_size hlt .i64
      obtain ⟨hld, _⟩ := hsr.load (P := Tryd.prog) (ty := 109) Tryd.underlying109 rfl write_size hlt
      obtain ⟨x, hx⟩ : ∃ x, x = d.W[m] := ⟨_, rfl⟩
      have hxc : (d.W.map wrC).getD m [] = wrC x := by rw [hx]; simp [hlt]
      have hx16 : x.2.length = 16 := by rw [hx]; exact (h11.ww _ (List.getElem_mem hlt)).1
      have hnext : lastW (d.W.take (m + 1)) j k0 = if x.1 = j then x.2 else cur := by rw [List.take_succ_eq_append_getElem hlt, lastW_snoc, ← hx, HC.out]
      have Hnext := Lib.hid hnext
      rw [hxc] at hld
      have hxs := wrA_size x hx16
      have HXS := Lib.hid hxs
      have HX16 := Lib.hid hx16
      clear hxc hx hnext hxs hx16
      have hbN := heap_alloc_new wr (.cells #[.int .i64 0, .int .u8 0, .int .u8 0, .int .u8 0, .int .u8 0, .int .u8 0, .int .u8 0, .int .u8 0, .int .u8 0, .int .u8 0, .int .u8 0, .int .u8 0, .int .u8 0, .int .u8 0, .int .u8 0, .int .u8 0, .int .u8 0] 109)
      have hkN : Keeps No wr (wr.alloc (.cells #[.int .i64 0, .int .u8 0, .int .u8 0, .int .u8 0, .int .u8 0, .int .u8 0, .int .u8 0, .int .u8 0, .int .u8 0, .int .u8 0, .int .u8 0, .int .u8 0, .int .u8 0, .int .u8 0, .int .u8 0, .int .u8 0, .int .u8 0] 109)) := (Keeps.refl No wr).alloc _
      go_wp2_with (first | (refine wpList_storeRow rfl 109 (.tmp 9) (.tmp 33) rfl wr.heap.size (wrC x).toArray rfl rfl 109 _ hbN (by rw [HXS.out]; exact write_size) (by rw [HXS.out]; rfl) (wrA_one x) ?_) | (refine wpList_loadV rfl 109 (.tmp 32) rfl _ rfl _ hld ?_))
      intro w5 hb5 hz5 hk5
      obtain ⟨hx0, hx1, _⟩ := wr_cells hb5 HX16.out
      have hkr5 : Keeps No wr w5 := hkN.trans hk5 (fun i hi e => by omega)
      have hbr5 := hkr5.blk hbr (not_No _)
      clear hbr hb5 hbN hkN hk5 hld hix
      have hk05 := hkr.transNo hkr5
      by_cases hij : x.1 = j
      · have q1 : ((x.1 : Int) == (j : Int)) = true := by rw [beq_iff_eq]; omega
        have Hij := Lib.hid hij
        clear hij
        go_wp2_with (first | (refine wpList_storeRow rfl 107 (.tmp 7) (.tmp 39) rfl w.heap.size (blkC x.2).toArray rfl rfl 107 _ hbr5 (by rw [blkA_size _ HX16.out]; exact block_size) (by rw [blkA_size _ HX16.out, HCS.out]) (blkA_one _) ?_) | (refine wpList_loadV rfl 107 (.tmp 38) rfl _ rfl _ hx1 ?_))
        intro w6 hb6 hz6 hk6
        go_wp2_with fail
        go_roundg (d.W.length - (m + 1))
        case measure => have := Hq.out; omega
        case rel => exact ⟨m + 1, by omega, rfl, by go_num, by rw [Hnext.out, if_pos Hij.out]; exact hb6, hk05.trans hk6 (fun i hi e => by omega)⟩
      · have q1 : ((x.1 : Int) == (j : Int)) = false := by rw [beq_eq_false_iff_ne]; omega
        have Hij := Lib.hid hij
        clear hij
        go_wp2_with fail
        go_roundg (d.W.length - (m + 1))
        case measure => have := Hq.out; omega
        case rel => exact ⟨m + 1, by omega, rfl, by go_num, by rw [Hnext.out, if_neg Hij.out]; exact hbr5, hk05⟩
    · obtain rfl : m = d.W.length := by omega
      have hcl : (blkC cur).length = 16 := by rw [blkC_len, HCL.out]
      have hsl : Sl wr (some ⟨w.heap.size, 0, none⟩) 16 16 (cur.map byteV) := Sl.ofRow hbr 16 hcl (by decide)
      have hfin : d.at_ (Int.toNat (j : Int)) = cur := by rw [HC.out, List.take_length, HK0.out]; rfl
      have Hfin := Lib.hid hfin
      clear hcl hfin
      go_wp2_with fail
      refine (cloneB_any _ _ _ cur _ hsl (by omega)).mono ?_
      rintro e w7 ⟨v, rfl, hown, hk7⟩
      go_wp2_with fail
      go_ret2
      exact ⟨v, rfl, by rw [Hfin.out]; exact own_le hown hkr.size, hkr.transNo hk7⟩
end Go.Proofs.YthimnkmoeonheaaDoor
