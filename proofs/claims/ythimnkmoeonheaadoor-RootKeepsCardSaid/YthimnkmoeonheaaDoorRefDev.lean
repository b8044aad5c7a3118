/- The walks of the document's device. -/
import Derived.Test.YthimnkmoeonheaaDoorMemB
import Derived.Test.YthimnkmoeonheaaDoorOrd
import Derived.Test.YthimnkmoeonheaaDoorPlainDev
import Derived.Lib.MinMax
import Derived.Deep.LoopGhost
import Derived.Deep.DeepCutAuto
import Derived.Deep.CutRange
import Derived.Deep.CutBlock
import Derived.Great.BuildSlice
namespace Go.Proofs.YthimnkmoeonheaaDoor
open Go.RowKit
set_option linter.unusedSimpArgs false
set_option linter.unusedVariables false
set_option maxRecDepth 100000

def strC (l : List UInt8) : Value := .string ⟨l.toArray⟩
def wr2 (w : WR) : List Value := [.int .i64 (w.1 : Int), .string ⟨w.2.toArray⟩]
def limI : Option Nat → Int | none => -1 | some n => n
theorem wr2_wide (L : List WR) : ∀ x ∈ L.map wr2, x.length = 2 := by intro x hx; obtain ⟨e, _, rfl⟩ := List.mem_map.1 hx; rfl
theorem wr2_one (L : List WR) : ∀ u ∈ (L.map wr2).flatten, u.oneCell' = true := by
  intro u hu
  obtain ⟨l, hl, hu⟩ := List.mem_flatten.1 hu
  obtain ⟨e, _, rfl⟩ := List.mem_map.1 hl
  simp [wr2] at hu
  rcases hu with rfl | rfl <;> rfl
theorem strC_one (L : List (List UInt8)) : ∀ u ∈ L.map strC, u.oneCell' = true := by
  intro u hu; obtain ⟨e, _, rfl⟩ := List.mem_map.1 hu; rfl
theorem string_infoD : (Tryd.prog.info? 9).map (fun i => (i.zero, i.size, i.bytes)) = some (some (.string ByteArray.empty), 1, 16) := by kernel_rfl
theorem wr2_info : (Tryd.prog.info? 128).map (fun i => (i.zero, i.size, i.bytes)) = some (some (.agg #[.int .i64 0, .string ByteArray.empty]), 2, 24) := by kernel_rfl
theorem wr2_size : (Tryd.prog.info? 128).map (·.size) = some 2 := by kernel_rfl

/-- The document's device at block b; F: its blocks. -/
def Rv (w : World) (b : Nat) (F : Nat → Prop) (d : DS) : Prop :=
  ∃ vk vl, w.heap[b]? = some (.cells #[vk, vl, .int .i64 (limI d.lim)] 123 (0, 0)) ∧
    w.ownsRow 0 9 1 vk d.K.length (d.K.map strC) ∧
    w.ownsRow 0 128 2 vl d.W.length (d.W.map wr2).flatten ∧
    F b ∧ (∀ g, vk.ownBlock = some g → F g ∧ g ≠ b) ∧ (∀ g, vl.ownBlock = some g → F g ∧ g ≠ b) ∧ (∀ g, vk.ownBlock = some g → vl.ownBlock ≠ some g) ∧ (∀ i, F i → i < w.heap.size) ∧ d.Ok ∧ (∀ n, d.lim = some n → (n : Int) ≤ 9223372036854775807)
theorem Rv.lt {w : World} {b : Nat} {F : Nat → Prop} {d : DS} (h : Rv w b F d) : ∀ i, F i → i < w.heap.size := by
  obtain ⟨_, _, _, _, _, _, _, _, _, h, _⟩ := h; exact h
theorem Rv.ok {w : World} {b : Nat} {F : Nat → Prop} {d : DS} (h : Rv w b F d) : d.Ok := by
  obtain ⟨_, _, _, _, _, _, _, _, _, _, h, _⟩ := h; exact h
theorem Rv.keep {w w' : World} {b : Nat} {F S : Nat → Prop} {d : DS} (h : Rv w b F d) (k : Keeps S w w') (hS : ∀ i, F i → ¬ S i) : Rv w' b F d := by
  obtain ⟨vk, vl, h1, h2, h3, h4, h5, h6, h7, h8, h9, h10⟩ := h
  exact ⟨vk, vl, k.blk h1 (hS _ h4), k.own h2 (fun i hi => hS i (h5 i hi).1), k.own h3 (fun i hi => hS i (h6 i hi).1), h4, h5, h6, h7, fun i hi => Nat.lt_of_lt_of_le (h8 i hi) k.size, h9, h10⟩
theorem Rv.kept {w w' : World} {b : Nat} {F : Nat → Prop} {d : DS} (h : Rv w b F d) (k : Keeps No w w') : Rv w' b F d := h.keep k fun _ _ => not_No _

theorem rfull_any (p : List UInt8) (w : World) (hp : p.length ≤ 140737488351232) :
    Calls Tryd.prog 61 #[.string ⟨p.toArray⟩] w fun e w' => e = .returned (.string ⟨(full p).toArray⟩) ∧ w = w' := by
  go_enter Tryd.func61, Tryd.ntmps61
  go_wp2_with fail
  go_loopg [0] (16 - p.length) (fun q s wr => ∃ m : Nat, m ≤ 16 - p.length ∧ q = 16 - p.length - m ∧ s = .string ⟨(p ++ List.replicate m 0).toArray⟩ ∧ w = wr)
  case atStart => exact ⟨0, Nat.zero_le _, rfl, by simp, rfl⟩
  case round =>
    obtain ⟨m, hm, hq, rfl, rfl⟩ := hrel
    have Hq := Lib.hid hq
    obtain ⟨cur, hcur⟩ : ∃ cur, cur = p ++ List.replicate m 0 := ⟨_, rfl⟩
    rw [← hcur]
    have hcl : cur.length = p.length + m := by rw [hcur]; simp
    have HC := Lib.hid hcur
    have HCL := Lib.hid hcl
    have hadd := fun wx => run_add_bytes (P := Tryd.prog) wx cur [0] (by rw [hcl]; simp; omega)
    have hsz : (⟨cur.toArray⟩ : ByteArray).size = cur.length := by simp [ByteArray.size]
    clear hq hcur
    by_cases hlt : cur.length < 16
    · have ht : decide ((cur.length : Int) < 16) = true := by simp; omega
      clear hcl
      go_wp2_with fail
      go_roundg (16 - p.length - (m + 1))
      case measure => have := Hq.out; have := HCL.out; omega
      case rel => exact ⟨m + 1, by have := HCL.out; omega, rfl, by rw [HC.out, List.append_assoc, List.replicate_succ'], rfl⟩
    · have ht : decide ((cur.length : Int) < 16) = false := by simp; omega
      clear hcl
      go_wp2_with fail
      go_ret
      have hfin : cur = full p := by
        have := HCL.out
        rw [HC.out, full]
        congr 2
        omega
      exact ⟨by rw [← hfin]; rfl, rfl⟩

theorem rright_any (b : Nat) (F : Nat → Prop) (d : DS) (i : Int) (p : List UInt8) (w : World) (h : Rv w b F d) (hp : p.length ≤ 140737488351232) :
    Calls Tryd.prog 63 #[.pointer (some ⟨b, 0, none⟩), .int .i64 i, .string ⟨p.toArray⟩] w fun e w' => e = .returned (.bool (rightD d.K.length i p.length)) ∧ w = w' := by
  obtain ⟨vk, vl, h1, h2, h3, h4, h5, h6, h7, h8, h9, h10⟩ := h
  obtain ⟨ak, ck, rfl, hsk, _⟩ := Sl.ofOwn h2
  have hc0 := cell_of_row w b 0 _ _ (0, 0) h1
  have hsz : (⟨p.toArray⟩ : ByteArray).size = p.length := by simp [ByteArray.size]
  clear h1
  go_enter Tryd.func63, Tryd.ntmps63
  by_cases q1 : i < 0
  · have hd : rightD d.K.length i p.length = false := by unfold rightD; simp; omega
    rw [hd]
    have q1' : decide (0 ≤ i) = false := by simp; omega
    clear hd
    go_wp2_with fail
    go_ret
    exact ⟨rfl, rfl⟩
  have q1' : decide (0 ≤ i) = true := by simp; omega
  by_cases q2 : i < (d.K.length : Int)
  · have hd : rightD d.K.length i p.length = decide ((p.length : Int) ≤ 16) := by
      unfold rightD
      rw [q1', decide_eq_true q2, Bool.true_and, Bool.true_and]
      congr 1
      exact propext (by omega)
    rw [hd]
    have q2' : decide (i < (d.K.length : Int)) = true := decide_eq_true q2
    clear hd
    go_wp2_with fail
    go_ret
    exact ⟨by simp, rfl⟩
  · have hd : rightD d.K.length i p.length = false := by unfold rightD; simp; omega
    rw [hd]
    have q2' : decide (i < (d.K.length : Int)) = false := decide_eq_false q2
    clear hd
    go_wp2_with fail
    go_ret
    exact ⟨rfl, rfl⟩

theorem rcall_off (b : Nat) (F : Nat → Prop) (d : DS) (w : World) (h : Rv w b F d) (hl : d.lim = some 0) :
    Calls Tryd.prog 65 #[.pointer (some ⟨b, 0, none⟩)] w fun e w' => e = .returned (.int .i64 40) ∧ w = w' := by
  obtain ⟨vk, vl, h1, h2, h3, h4, h5, h6, h7, h8, h9, h10⟩ := h
  have hc0 := cell_of_row w b 2 _ _ (0, 0) h1
  rw [hl] at hc0
  have hc0' : w.cell? ⟨b, 2, none⟩ = some (.int .i64 0) := hc0
  clear h1 hl hc0
  go_enter Tryd.func65, Tryd.ntmps65
  go_wp2_with fail
  go_ret
  exact ⟨rfl, rfl⟩
theorem rcall_on (b : Nat) (F : Nat → Prop) (d : DS) (w : World) (h : Rv w b F d) (hl : d.lim ≠ some 0) :
    Calls Tryd.prog 65 #[.pointer (some ⟨b, 0, none⟩)] w fun e w' => e = .returned (.int .i64 0) ∧ Rv w' b F ⟨d.K, d.W, (callD d.lim).1⟩ ∧ Keeps (fun i => i = b) w w' := by
  have h' := h
  obtain ⟨vk, vl, h1, h2, h3, h4, h5, h6, h7, h8, h9, h10⟩ := h
  have hc0 := cell_of_row w b 2 _ _ (0, 0) h1
  have hf0 := frozen_of_row w b 2 _ _ h1
  cases hn : d.lim with
  | none =>
    rw [hn] at hc0
    have hc0' : w.cell? ⟨b, 2, none⟩ = some (.int .i64 (-1)) := hc0
    have Hn := Lib.hid hn
    clear hn hl h1 hc0
    go_enter Tryd.func65, Tryd.ntmps65
    go_wp2_with fail
    go_ret
    refine ⟨rfl, ?_, Keeps.refl _ _⟩
    rw [show (⟨d.K, d.W, (callD none).1⟩ : DS) = d from by rw [show (callD none).1 = none from rfl, ← Hn.out]]
    exact h'
  | some n =>
    rw [hn] at hc0
    have hn0 : n ≠ 0 := fun e => hl (by rw [hn, e])
    obtain ⟨m, rfl⟩ : ∃ m, n = m + 1 := ⟨n - 1, by omega⟩
    have hm := h10 _ hn
    have hc0' : w.cell? ⟨b, 2, none⟩ = some (.int .i64 ((m : Int) + 1)) := by rw [hc0]; rfl
    have Hn := Lib.hid hn
    have q1 : (((m : Int) + 1) == 0) = false := by rw [beq_eq_false_iff_ne]; omega
    clear hn hl hc0 hn0
    go_enter Tryd.func65, Tryd.ntmps65
    go_wp2_with fail
    go_ret
    rw [Hn.out] at h1
    have hk := Keeps.set w b 2 (.int .i64 (m : Int))
    exact ⟨rfl, ⟨vk, vl, heap_setCell_same w b 2 _ _ _ h1, hk.own h2 (fun i hi => (h5 i hi).2), hk.own h3 (fun i hi => (h6 i hi).2), h4, h5, h6, h7, fun i hi => Nat.lt_of_lt_of_le (h8 i hi) hk.size, ⟨h9.kw, h9.ww⟩, fun q hq => by cases hq; omega⟩, hk⟩

theorem r_beat (b : Nat) (F : Nat → Prop) (d : DS) (w : World) (h : Rv w b F d) :
    Calls Tryd.prog 67 #[.pointer (some ⟨b, 0, none⟩)] w fun e w' => e = .returned (.int .i64 d.beat.2) ∧ Rv w' b F d.beat.1 ∧ Keeps F w w' := by
  have HFb : F b := by obtain ⟨_, _, _, _, _, h, _⟩ := h; exact h
  by_cases hl : d.lim = some 0
  · have ho := rcall_off b F d w h hl
    have e1 : d.beat = (d, 40) := by unfold DS.beat; rw [hl]; obtain ⟨K, W, lim⟩ := d; simp at hl; subst hl; rfl
    rw [e1]
    clear hl e1
    go_enter Tryd.func67, Tryd.ntmps67
    go_wp2_with fail
    refine ho.mono ?_
    rintro e w1 ⟨rfl, rfl⟩
    go_wp2_with fail
    go_ret
    exact ⟨rfl, h, Keeps.refl _ _⟩
  · have ho := rcall_on b F d w h hl
    have e1 : d.beat.2 = 0 := by
      unfold DS.beat
      cases hd : d.lim with
      | none => rfl
      | some n => cases n with
        | zero => exact absurd hd hl
        | succ n => rfl
    rw [e1]
    clear hl e1
    go_enter Tryd.func67, Tryd.ntmps67
    go_wp2_with fail
    refine ho.mono ?_
    rintro e w1 ⟨rfl, hd1, hk1⟩
    go_wp2_with fail
    go_ret
    exact ⟨rfl, hd1, hk1.mono (fun g _ hg => by rw [hg]; exact HFb)⟩

theorem r_limit (b : Nat) (F : Nat → Prop) (d : DS) (n : Int) (w : World) (h : Rv w b F d) (hn : n ≤ 9223372036854775807) :
    Calls Tryd.prog 37 #[.pointer (some ⟨b, 0, none⟩), .int .i64 n] w fun e w' => e = .returned (.tuple #[]) ∧ Rv w' b F (d.limit n) ∧ Keeps F w w' := by
  obtain ⟨vk, vl, h1, h2, h3, h4, h5, h6, h7, h8, h9, h10⟩ := h
  have hf2 := frozen_of_row w b 2 _ _ h1
  have hc2 := cell_of_row w b 2 _ _ (0, 0) h1
  go_enter Tryd.func37, Tryd.ntmps37
  go_wp2_with fail
  go_end0
  have hk := Keeps.set w b 2 (.int .i64 (max n 0))
  have hb := heap_setCell_same w b 2 _ _ (.int .i64 (max n 0)) h1
  have e1 : limI (d.limit n).lim = max n 0 := by show ((max n 0).toNat : Int) = _; omega
  refine ⟨rfl, ⟨vk, vl, ?_, hk.own h2 (fun i hi => (h5 i hi).2), hk.own h3 (fun i hi => (h6 i hi).2), h4, h5, h6, h7, fun i hi => Nat.lt_of_lt_of_le (h8 i hi) hk.size, ⟨h9.kw, h9.ww⟩, fun q hq => ?_⟩, hk.mono (fun g _ hg => by rw [hg]; exact h4)⟩
  · rw [e1]; exact hb
  · simp [DS.limit] at hq; omega

theorem strC_at (K : List (List UInt8)) (i : Nat) (h : i < K.length) : (K.map strC).getD i undef = .string ⟨(K.getD i []).toArray⟩ := by simp [h, strC]

theorem r_read (b : Nat) (F : Nat → Prop) (d : DS) (i : Int) (w : World) (h : Rv w b F d) :
    Calls Tryd.prog 32 #[.pointer (some ⟨b, 0, none⟩), .int .i64 i] w fun e w' =>
      e = .returned (.tuple #[.string ⟨(d.read i).1.toArray⟩, .int .i64 (d.read i).2]) ∧ w = w' := by
  have h' := h
  obtain ⟨vk, vl, h1, h2, h3, h4, h5, h6, h7, h8, h9, h10⟩ := h
  have hrt := rright_any b F d i [] w h' (by simp)
  unfold DS.read
  by_cases hr : rightD d.K.length i 0 = true
  case neg =>
    have hr' : rightD d.K.length i ([] : List UInt8).length = false := by simpa using hr
    rw [if_neg hr]
    rw [hr'] at hrt
    clear hr hr'
    go_enter Tryd.func32, Tryd.ntmps32
    go_wp2_with fail
    refine hrt.mono ?_
    rintro e w1 ⟨rfl, rfl⟩
    go_wp2_with fail
    go_ret2
    exact ⟨rfl, rfl⟩
  have hr' : rightD d.K.length i ([] : List UInt8).length = true := by simpa using hr
  rw [if_pos hr]
  rw [hr'] at hrt
  have hri := hr
  unfold rightD at hri
  simp at hri
  obtain ⟨j, rfl⟩ : ∃ j : Nat, i = (j : Int) := ⟨i.toNat, by omega⟩
  have hjK : j < d.K.length := by omega
  have hc2 := cell_of_row w b 2 _ _ (0, 0) h1
  by_cases hl : d.lim = some 0
  · rw [if_pos hl]
    rw [hl] at hc2
    have hc2' : w.cell? ⟨b, 2, none⟩ = some (.int .i64 0) := hc2
    clear hr hr' hc2 hl hri
    go_enter Tryd.func32, Tryd.ntmps32
    go_wp2_with fail
    refine hrt.mono ?_
    rintro e w1 ⟨rfl, rfl⟩
    go_wp2_with fail
    go_ret2
    exact ⟨rfl, rfl⟩
  rw [if_neg hl]
  have hlz : (limI d.lim == 0) = false := by
    rw [beq_eq_false_iff_ne]
    intro e
    cases hd : d.lim with
    | none => rw [hd] at e; simp [limI] at e
    | some n => rw [hd] at e; simp [limI] at e; subst e; exact hl hd
  obtain ⟨lz, hlze⟩ : ∃ lz, lz = limI d.lim := ⟨_, rfl⟩
  rw [← hlze] at hc2 hlz
  have hc2' : w.cell? ⟨b, 2, none⟩ = some (.int .i64 lz) := hc2
  have Hl := Lib.hid hl
  have Hlz := Lib.hid hlze
  have hc0 := cell_of_row w b 0 _ _ (0, 0) h1
  have hc1 := cell_of_row w b 1 _ _ (0, 0) h1
  obtain ⟨ak, ck, rfl, hsk, _⟩ := Sl.ofOwn h2
  obtain ⟨al, cl, rfl, hsl, hal⟩ := SlK.ofOwn (by decide) (wr2_wide _) h3
  have hwm := hsl.max
  have hwl := hsl.le
  unfold maxLen at hwm
  have hixk := hsk.ix (P := Tryd.prog) Tryd.underlying120 (by kernel_rfl) hjK .i64
  have hck := hsk.at_ hjK
  rw [strC_at _ _ hjK] at hck
  obtain ⟨k0, hk0⟩ : ∃ k0, k0 = d.K.getD j [] := ⟨_, rfl⟩
  rw [← hk0] at hck
  have HK0 := Lib.hid hk0
  clear hr hr' hc2 hl hri hk0 hlze h1
  go_enter Tryd.func32, Tryd.ntmps32
  go_wp2_with fail
  refine hrt.mono ?_
  rintro e w1 ⟨rfl, rfl⟩
  go_wp2_with fail
  go_loopg [6] d.W.length (fun q s wr => ∃ m : Nat, m ≤ d.W.length ∧ q = m ∧ s = .int .i64 ((m : Int) - 1) ∧ lastW (d.W.drop m) j k0 = k0 ∧ (∀ x ∈ d.W.drop m, x.1 ≠ j) ∧ w = wr)
  case atStart => exact ⟨d.W.length, Nat.le_refl _, rfl, rfl, by simp [lastW], by simp, rfl⟩
  case round =>
    obtain ⟨m, hm, hq, rfl, hlast, hno, rfl⟩ := hrel
    have Hq := Lib.hid hq
    have Hlast := Lib.hid hlast
    have Hno := Lib.hid hno
    clear hq hlast hno
    by_cases h0 : m = 0
    · subst h0
      have hfin : d.at_ (Int.toNat (j : Int)) = k0 := by
        have := Hlast.out
        rw [List.drop_zero] at this
        rw [← this, HK0.out]
        rfl
      have Hfin := Lib.hid hfin
      clear hfin
      go_wp2_with fail
      go_ret2
      exact ⟨by rw [Hfin.out]; rfl, rfl⟩
    obtain ⟨q', rfl⟩ : ∃ q', m = q' + 1 := ⟨m - 1, by omega⟩
    have hlt : q' < d.W.length := by omega
    have hixl := hsl.ixz (P := Tryd.prog) Tryd.underlying121 wr2_size (((q' + 1 : Nat) : Int) - 1) (i := q') (by omega) hlt .i64
    have hixl' := hsl.ix (P := Tryd.prog) Tryd.underlying121 wr2_size hlt .i64
    have ha0 := hsl.at_ hlt (j := 0) (by decide)
    have ha1 := hsl.at_ hlt (j := 1) (by decide)
    obtain ⟨x, hx⟩ : ∃ x, x = d.W[q'] := ⟨_, rfl⟩
    have hxc : (d.W.map wr2).getD q' [] = wr2 x := by rw [hx]; simp [hlt]
    rw [hxc] at ha0 ha1
    simp only [wr2, List.getD_cons_zero, List.getD_cons_succ, Nat.add_zero] at ha0 ha1
    obtain ⟨g, hg, _⟩ := hal _ (hsl.isSome hlt)
    rw [hg] at hixl hixl' ha0 ha1
    simp only [Addr.add_lit, Nat.zero_add] at hixl hixl' ha0 ha1
    clear hg
    have hdr : d.W.drop q' = x :: d.W.drop (q' + 1) := by rw [hx]; exact List.drop_eq_getElem_cons hlt
    have Hdr := Lib.hid hdr
    have hat : x.1 = j → d.at_ (Int.toNat (j : Int)) = x.2 := fun e => by
      have hsp : d.W = d.W.take q' ++ [x] ++ d.W.drop (q' + 1) := by
        rw [List.append_assoc, List.singleton_append, ← hdr, List.take_append_drop]
      show lastW d.W j _ = x.2
      rw [hsp]
      unfold lastW
      rw [List.foldl_append]
      have := lastW_not (d.W.drop (q' + 1)) j (List.foldl (fun b w => if w.1 = j then w.2 else b) (d.K.getD j []) (d.W.take q' ++ [x])) (Hno.out)
      unfold lastW at this
      show List.foldl _ _ _ = _
      rw [Int.toNat_natCast]
      rw [this]
      have h2 := lastW_snoc (d.W.take q') x j (d.K.getD j [])
      unfold lastW at h2
      rw [h2, if_pos e]
    have Hat := Lib.hid hat
    clear hxc hx hdr hat
    by_cases hij : x.1 = j
    · have q1 : ((x.1 : Int) == (j : Int)) = true := by rw [beq_iff_eq]; omega
      have Hfin := Lib.hid (Hat.out hij)
      clear hij
      go_wp2_with fail
      go_ret2
      exact ⟨by rw [Hfin.out]; rfl, rfl⟩
    · have q1 : ((x.1 : Int) == (j : Int)) = false := by rw [beq_eq_false_iff_ne]; omega
      have Hij := Lib.hid hij
      clear hij
      go_wp2_with fail
      go_roundg q'
      case measure => have := Hq.out; omega
      case rel => exact ⟨q', by omega, rfl, by go_num, by rw [Hdr.out]; show lastW (d.W.drop (q' + 1)) j (if x.1 = j then x.2 else k0) = k0; rw [if_neg Hij.out]; exact Hlast.out, fun y hy => by rw [Hdr.out] at hy; rcases List.mem_cons.1 hy with h | h; (rw [h]; exact Hij.out); (exact Hno.out y h), rfl⟩

set_option maxHeartbeats 1000000 in
theorem rwrite_ok (b : Nat) (F : Nat → Prop) (d : DS) (i : Int) (p : List UInt8) (w : World) (h : Rv w b F d) (hr : rightD d.K.length i p.length = true) (hl : d.lim ≠ some 0) (hW : d.W.length ≤ 1099511627776) :
    Calls Tryd.prog 43 #[.pointer (some ⟨b, 0, none⟩), .int .i64 i, .string ⟨p.toArray⟩] w fun e w' => e = .returned (.int .i64 0) ∧
      ∃ F', Rv w' b F' ⟨d.K, d.W ++ [(i.toNat, full p)], (callD d.lim).1⟩ ∧ Step F F' w w' := by
  have hri := hr
  unfold rightD at hri
  simp at hri
  obtain ⟨⟨hi0, hiK⟩, hp16⟩ := hri
  have hrt := rright_any b F d i p w h (by omega)
  rw [hr] at hrt
  obtain ⟨j, rfl⟩ : ∃ j : Nat, i = (j : Int) := ⟨i.toNat, by omega⟩
  have hjK : j < d.K.length := by omega
  have ho := rcall_on b F d w h hl
  have HFb : F b := by obtain ⟨_, _, _, _, _, h, _⟩ := h; exact h
  have HL := Lib.hid hl
  have HR := Lib.hid hr
  clear hl hr
  go_enter Tryd.func43, Tryd.ntmps43
  go_wp2_with fail
  refine hrt.mono ?_
  rintro e w1 ⟨rfl, rfl⟩
  go_wp2_with fail
  refine ho.mono ?_
  rintro e w1 ⟨rfl, hd1, hk1⟩
  obtain ⟨vk, vl, h1, h2, h3, h4, h5, h6, h7, h8, h9, h10⟩ := hd1
  obtain ⟨al, cl, rfl, hsl, hal⟩ := SlK.ofOwn (k := 2) (xs := d.W.map wr2) (by decide) (wr2_wide _) h3
  have hc1 := cell_of_row w1 b 1 _ _ (0, 0) h1
  have hA0 : (w1.alloc (.cells #[] 128)).ownsRow w1.heap.size 128 2 (.slice (some ⟨w1.heap.size, 0, none⟩) 0 0) 0 [] := World.ownsRow_made w1 #[] 0 (Nat.le_refl _) (Nat.zero_le _) (by simp)
  have hkA : Keeps No w1 (w1.alloc (.cells #[] 128)) := (Keeps.refl No w1).alloc _
  have hbl := h8 b h4
  clear hrt ho
  go_wp2_with (at_builtin; refine app_ownK rfl (.tmp 18) (.tmp 22) 121 rfl w1.heap.size 128 _ 2 24 Tryd.underlying121 wr2_info rfl (by decide) (by decide) _ 0 [] rfl hA0 _ d.W.length cl (d.W.map wr2) rfl (hsl.kept hkA) (wr2_one _) (by omega) ?hbase ?_)
  case hbase => simp
  intro v2 w2 hown2 hg2 hat2
  have hX2 : Keeps No w1 w2 := hkA.grown hg2 (fun i hi hlt => absurd hlt (by have hi' : w1.heap.size = i := (by injection hi); omega))
  obtain ⟨a2, c2, rfl, hs2, _⟩ := SlK.ofOwn (by decide) (wr2_wide _) hown2
  clear hA0 hkA hg2 hat2 hs2
  go_wp2_with fail
  refine (rfull_any p _ (by omega)).mono ?_
  rintro e w3 ⟨rfl, rfl⟩
  have hownF := hown2.alloc (.cells #[.int .i64 (j : Int), .string ⟨(full p).toArray⟩] 128)
  have hsF := SlK.one w2 (wr2 (j, full p)) 128 rfl
  have hXF := hX2.alloc (.cells #[.int .i64 (j : Int), .string ⟨(full p).toArray⟩] 128)
  have hzF := hXF.size
  go_wp2_with (at_builtin; refine app_ownK rfl (.tmp 23) (.tmp 28) 121 rfl w1.heap.size 128 _ 2 24 Tryd.underlying121 wr2_info rfl (by decide) (by decide) _ d.W.length _ rfl hownF _ 1 1 [wr2 (j, full p)] rfl hsF (wr2_one [(j, full p)]) (by omega) hzF ?_)
  intro v4 w4 hown4 hg4 hat4
  have hX4 : Keeps No w1 w4 := hXF.grown hg4 (fun i hi hlt => absurd hlt (by have := (hown2.lt i hi).1; omega))
  replace hown4 : w4.ownsRow w1.heap.size 128 2 v4 (d.W.length + 1) ((d.W ++ [(j, full p)]).map wr2).flatten := by simpa using hown4
  obtain ⟨a4, c4, rfl, _, _⟩ := SlK.ofOwn (by decide) (wr2_wide _) hown4
  have hb4 := hX4.blk h1 (not_No _)
  have hd4 := cell_of_row w4 b 1 _ _ (0, 0) hb4
  have hf4 := frozen_of_row w4 b 1 _ _ hb4
  have Hown4 := Lib.hid hown4
  clear hown4 hat4 hg4 hc1 hownF hsF hown2
  go_wp2_with fail
  go_ret
  have hkb := Keeps.set w4 b 1 (.slice a4 (d.W.length + 1) c4)
  have hkF : Keeps F w (w4.setCell ⟨b, 1, none⟩ (.slice a4 (d.W.length + 1) c4)) := ((hk1.mono (T := F) (fun g _ hg => by rw [hg]; exact HFb)).transNo hX4).trans hkb (fun g _ hg => by rw [hg]; exact HFb)
  have hnew : ∀ g, (Value.slice a4 (d.W.length + 1) c4).ownBlock = some g → w1.heap.size ≤ g ∧ g < w4.heap.size := fun g hg => Hown4.out.lt g hg
  refine ⟨rfl, fun g => F g ∨ (Value.slice a4 (d.W.length + 1) c4).ownBlock = some g, ⟨vk, .slice a4 (d.W.length + 1) c4, heap_setCell_same w4 b 1 _ _ _ hb4, ?_, ?_, .inl h4, fun g hg => ⟨.inl (h5 g hg).1, (h5 g hg).2⟩, fun g hg => ⟨.inr hg, by have := hnew g hg; omega⟩, fun g hg hg' => ?_, ?_, ?_, h10⟩, hkF, ?_⟩
  · exact hkb.own (hX4.own h2 (fun _ _ => not_No _)) (fun g hg => (h5 g hg).2)
  · refine hkb.own ?_ (fun g hg e => ?_)
    · rw [List.length_append]; exact own_le Hown4.out (Nat.zero_le _)
    · have := hnew g hg; omega
  · have := hnew g hg'
    have := h8 g (h5 g hg).1
    omega
  · intro g hg
    rcases hg with hg | hg
    · exact Nat.lt_of_lt_of_le (h8 g hg) (Nat.le_trans hX4.size hkb.size)
    · have := (hnew g hg).2; simpa [World.setCell] using this
  · exact ⟨h9.kw, fun x hx => by
      rcases List.mem_append.1 hx with hx | hx
      · exact h9.ww x hx
      · simp at hx; subst hx; exact ⟨full_len _ hp16, hjK⟩⟩
  · intro g hg
    rcases hg with hg | hg
    · exact .inl hg
    · exact .inr (Nat.le_trans hk1.size (hnew g hg).1)

theorem r_write (b : Nat) (F : Nat → Prop) (d : DS) (i : Int) (p : List UInt8) (w : World) (h : Rv w b F d) (hp : p.length ≤ 140737488351232) (hW : d.W.length ≤ 1099511627776) :
    Calls Tryd.prog 43 #[.pointer (some ⟨b, 0, none⟩), .int .i64 i, .string ⟨p.toArray⟩] w fun e w' => e = .returned (.int .i64 (d.write i p).2) ∧
      ∃ F', Rv w' b F' (d.write i p).1 ∧ Step F F' w w' := by
  unfold DS.write
  by_cases hr : rightD d.K.length i p.length = true
  · rw [if_pos hr]
    by_cases hl : d.lim = some 0
    · rw [if_pos hl]
      have hrt := rright_any b F d i p w h hp
      rw [hr] at hrt
      have ho := rcall_off b F d w h hl
      clear hr hl
      go_enter Tryd.func43, Tryd.ntmps43
      go_wp2_with fail
      refine hrt.mono ?_
      rintro e w1 ⟨rfl, rfl⟩
      go_wp2_with fail
      refine ho.mono ?_
      rintro e w1 ⟨rfl, rfl⟩
      go_wp2_with fail
      go_ret
      exact ⟨rfl, F, h, Step.refl _ _⟩
    · rw [if_neg hl]
      exact rwrite_ok b F d i p w h hr hl hW
  · rw [if_neg hr]
    have hrt := rright_any b F d i p w h hp
    rw [show rightD d.K.length i p.length = false from by simpa using hr] at hrt
    clear hr
    go_enter Tryd.func43, Tryd.ntmps43
    go_wp2_with fail
    refine hrt.mono ?_
    rintro e w1 ⟨rfl, rfl⟩
    go_wp2_with fail
    go_ret
    exact ⟨rfl, F, h, Step.refl _ _⟩
end Go.Proofs.YthimnkmoeonheaaDoor
