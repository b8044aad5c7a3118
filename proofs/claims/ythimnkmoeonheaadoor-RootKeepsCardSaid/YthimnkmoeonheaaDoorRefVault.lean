/- The walks of the document's answer for layer 5: gone, Seal, Open, each once. -/
import Derived.Test.YthimnkmoeonheaaDoorLawFiveF
namespace Go.Proofs.YthimnkmoeonheaaDoor
open Go.RowKit
set_option linter.unusedSimpArgs false
set_option linter.unusedVariables false
set_option maxRecDepth 100000

def recCells (e : AE) : List Value := keyCells e.1 ++ [.string e.2.1, .string ⟨e.2.2.toArray⟩]
theorem recCells_len (e : AE) : (recCells e).length = 5 := rfl
theorem recs_wide (l : List AE) : ∀ x ∈ l.map recCells, x.length = 5 := by
  intro x hx; obtain ⟨e, _, rfl⟩ := List.mem_map.1 hx; rfl
theorem recs_one (l : List AE) : ∀ u ∈ (l.map recCells).flatten, u.oneCell' = true := by
  intro u hu
  obtain ⟨x, hx, hux⟩ := List.mem_flatten.1 hu
  obtain ⟨e, _, rfl⟩ := List.mem_map.1 hx
  simp [recCells, keyCells] at hux
  rcases hux with rfl | rfl | rfl | rfl | rfl <;> rfl
theorem keys_wide' (l : List K3) : ∀ x ∈ l.map keyCells, x.length = 3 := by
  intro x hx; obtain ⟨e, _, rfl⟩ := List.mem_map.1 hx; rfl
theorem entry_info : (Tryd.prog.info? 134).map (fun i => (i.zero, i.size, i.bytes)) = some (some (.agg #[.int .i64 0, .int .i64 0, .int .i64 0, .string ByteArray.empty, .string ByteArray.empty]), 5, 56) := by kernel_rfl

/-- The document's vault at block b. -/
def RV (w : World) (b : Nat) (vl vg : Value) (A : List AE) (G : List K3) : Prop :=
  w.heap[b]? = some (.cells #[vl, vg] 70 (0, 0)) ∧ w.ownsRow 0 134 5 vl A.length (A.map recCells).flatten ∧ w.ownsRow 0 23 3 vg G.length (G.map keyCells).flatten ∧
    vl.ownBlock ≠ some b ∧ vg.ownBlock ≠ some b ∧ ∀ i, vl.ownBlock = some i → vg.ownBlock ≠ some i
def RO (b : Nat) (vl vg : Value) : Nat → Prop := fun i => i = b ∨ vl.ownBlock = some i ∨ vg.ownBlock = some i
theorem RV.keep {w w' : World} {b : Nat} {vl vg : Value} {A : List AE} {G : List K3} {S : Nat → Prop} (h : RV w b vl vg A G) (k : Keeps S w w') (hS : ∀ i, RO b vl vg i → ¬ S i) : RV w' b vl vg A G := by
  obtain ⟨h1, h2, h3, h4⟩ := h
  exact ⟨k.blk h1 (hS b (.inl rfl)), k.own h2 (fun i hi => hS i (.inr (.inl hi))), k.own h3 (fun i hi => hS i (.inr (.inr hi))), h4⟩
theorem RV.kept {w w' : World} {b : Nat} {vl vg : Value} {A : List AE} {G : List K3} (h : RV w b vl vg A G) (k : Keeps No w w') : RV w' b vl vg A G := h.keep k (fun _ _ => not_No _)
theorem RV.lt {w : World} {b : Nat} {vl vg : Value} {A : List AE} {G : List K3} (h : RV w b vl vg A G) : ∀ i, RO b vl vg i → i < w.heap.size := by
  obtain ⟨h1, h2, h3, _⟩ := h
  rintro i (rfl | hi | hi)
  · exact (Array.getElem?_eq_some_iff.1 h1).1
  · exact (h2.lt i hi).2
  · exact (h3.lt i hi).2

set_option maxRecDepth 100000 in
set_option maxHeartbeats 1000000 in
theorem rgone_any (b : Nat) (vl vg : Value) (A : List AE) (G : List K3) (k : K3) (w : World) (hR : RV w b vl vg A G) (hG : G.length ≤ 1099511627776) :
    Calls Tryd.prog 68 #[.pointer (some ⟨b, 0, none⟩), .agg (keyCells k).toArray] w fun e w' => e = .returned (.bool (decide (k ∈ G))) ∧ Keeps No w w' := by
  have hlt := hR.lt
  obtain ⟨h1, h2, h3, h4, h5, h6⟩ := hR
  have hbl := hlt b (.inl rfl)
  obtain ⟨z, hz⟩ : ∃ z, decide (k ∈ G) = z := ⟨_, rfl⟩
  rw [hz]
  have Hz := Lib.hid hz
  clear hz
  obtain ⟨ag, cg, rfl, hsg, _⟩ := SlK.ofOwn (xs := G.map keyCells) (by decide) (keys_wide' G) h3
  have hkA : Keeps No w (w.alloc (.cells (keyCells k).toArray 23)) := (Keeps.refl No w).alloc _
  have hbox := heap_alloc_new w (.cells (keyCells k).toArray 23)
  have hc1 := cell_of_row w b 1 _ _ (0, 0) h1
  unfold keyCells at hkA hbox ⊢
  go_enter Tryd.func68, Tryd.ntmps68
  go_wp2_with fail
  go_loopg [6, 12] G.length (fun q _ i wr => ∃ (j : Nat), j ≤ G.length ∧ q = G.length - j ∧ i = .int .i64 j ∧ k ∉ G.take j ∧ Keeps No (w.alloc (.cells #[.int .i64 k.1.1, .int .i64 k.2.1.1, .int .i64 k.2.2.1] 23)) wr)
  case atStart => exact ⟨0, Nat.zero_le _, rfl, rfl, by simp, Keeps.refl _ _⟩
  case round =>
    obtain ⟨j, hj, hq, rfl, hno, hkr⟩ := hrel
    have Hq := Lib.hid hq
    have Hno := Lib.hid hno
    clear hq hno
    have hkw := hkA.transNo hkr
    have hbr := hkr.blk hbox (not_No _)
    have hzr : w.heap.size < wr.heap.size := by have := hkr.size; simp at this; omega
    have b0 := cell_of_row wr _ 0 _ _ (0, 0) hbr
    have b1 := cell_of_row wr _ 1 _ _ (0, 0) hbr
    have b2 := cell_of_row wr _ 2 _ _ (0, 0) hbr
    by_cases hlt2 : j < G.length
    · have hsr := hsg.kept hkw
      have hix := hsr.ix (P := Tryd.prog) Tryd.underlying68 (by kernel_rfl) hlt2 .i64
      obtain ⟨hld, _⟩ := hsr.load (P := Tryd.prog) (ty := 23) Tryd.underlying23 rfl (by kernel_rfl) hlt2
      obtain ⟨x, hx⟩ : ∃ x, x = G[j] := ⟨_, rfl⟩
      have hxc : (G.map keyCells).getD j [] = keyCells x := by rw [hx]; simp [hlt2]
      rw [hxc] at hld
      have heql := fun wy => key_eql x k wy
      unfold keyCells at hld heql
      by_cases hxk : x = k
      · simp only [decide_eq_true hxk] at heql
        have hzt : z = true := by rw [← Hz.out]; exact decide_eq_true (by rw [← hxk, hx]; exact List.getElem_mem hlt2)
        subst hzt
        clear hx hxc hxk
        go_wp2_with (refine wpList_loadV rfl 23 _ rfl _ rfl _ hld ?_)
        go_ret
        exact ⟨rfl, hkw.alloc _⟩
      · simp only [decide_eq_false hxk] at heql
        have hst : k ∉ G.take (j + 1) := by
          rw [List.take_succ_eq_append_getElem hlt2, ← hx, List.mem_append]
          rintro (h | h)
          · exact Hno.out h
          · simp at h; exact hxk h.symm
        have Hst := Lib.hid hst
        clear hx hxc hxk hst
        go_wp2_with (refine wpList_loadV rfl 23 _ rfl _ rfl _ hld ?_)
        go_roundg (G.length - (j + 1))
        case measure => have := Hq.out; omega
        case rel => exact ⟨j + 1, by omega, rfl, by go_num, Hst.out, hkr.alloc _⟩
    · obtain rfl : G.length = j := by omega
      have hzf : z = false := by rw [← Hz.out]; have := Hno.out; rw [List.take_length] at this; exact decide_eq_false this
      subst hzf
      go_wp2_with fail
      go_ret
      exact ⟨rfl, hkw⟩

theorem rseal_bad (b : Nat) (k : K3) (bs : ByteArray) (p : List UInt8) (w : World) (h : badKey k ∨ 65536 < p.length) (hp : p.length ≤ 140737488351232) :
    Calls Tryd.prog 45 #[.pointer (some ⟨b, 0, none⟩), .agg (keyCells k).toArray, .string bs, .string ⟨p.toArray⟩] w fun e w' => e = .returned (.tuple #[.int .u64 0, .int .i64 2]) ∧ Keeps No w w' := by
  obtain ⟨⟨k0, p0⟩, ⟨k1, p1⟩, ⟨k2, p2⟩⟩ := k
  unfold keyCells badKey at *
  simp only at h ⊢
  clear p0 p1 p2
  go_enter Tryd.func45, Tryd.ntmps45
  by_cases h0 : k0 < 0
  · clear h
    go_wp2_with fail
    go_ret2
    exact ⟨rfl, (Keeps.refl No w).alloc _⟩
  by_cases h1 : k1 < 0
  · clear h
    go_wp2_with fail
    go_ret2
    exact ⟨rfl, (Keeps.refl No w).alloc _⟩
  by_cases h2 : k2 < 0
  · clear h
    go_wp2_with fail
    go_ret2
    exact ⟨rfl, (Keeps.refl No w).alloc _⟩
  have h' : decide ((65536 : Int) < (p.length : Int)) = true := by simp; omega
  clear h
  go_wp2_with fail
  go_ret2
  exact ⟨rfl, (Keeps.refl No w).alloc _⟩

set_option maxRecDepth 100000 in
set_option maxHeartbeats 4000000 in
theorem rseal_gone (b : Nat) (vl vg : Value) (A : List AE) (G : List K3) (k : K3) (bs : ByteArray) (p : List UInt8) (w : World) (hR : RV w b vl vg A G) (hb : ¬ badKey k) (hp : p.length ≤ 65536) (hG : G.length ≤ 1099511627776) (hA : A.length ≤ 1099511627776) (hin : k ∈ G) :
    Calls Tryd.prog 45 #[.pointer (some ⟨b, 0, none⟩), .agg (keyCells k).toArray, .string bs, .string ⟨p.toArray⟩] w fun e w' =>
      e = .returned (.tuple #[.int .u64 (0), .int .i64 50]) ∧ Keeps No w w' := by
  have hlt := hR.lt
  have hR0 := hR
  obtain ⟨h1, hrl, hrg, h4, h5, h6⟩ := hR
  have hbl := hlt b (.inl rfl)
  have hgone := fun wx (hx : Keeps No w wx) => rgone_any b vl vg A G k wx (hR0.kept hx) hG
  obtain ⟨⟨k0, p0⟩, ⟨k1, p1⟩, ⟨k2, p2⟩⟩ := k
  have hkA : Keeps No w (w.alloc (.cells #[.int .i64 k0, .int .i64 k1, .int .i64 k2] 23)) := (Keeps.refl No w).alloc _
  have hbox : (w.alloc (.cells #[.int .i64 k0, .int .i64 k1, .int .i64 k2] 23)).heap[w.heap.size]? = some (.cells #[.int .i64 k0, .int .i64 k1, .int .i64 k2] 23 (0, 0)) := heap_alloc_new w _
  obtain ⟨al, cl, rfl, hsl, hal⟩ := SlK.ofOwn (xs := A.map recCells) (by decide) (recs_wide A) hrl
  unfold badKey at hb
  simp only at hb
  have e0 : decide (k0 < 0) = false := by simp; omega
  have e1 : decide (k1 < 0) = false := by simp; omega
  have e2 : decide (k2 < 0) = false := by simp; omega
  have e3 : decide ((65536 : Int) < (p.length : Int)) = false := by simp; omega
  clear hb hlt
  unfold keyCells at hgone ⊢
  simp only at hgone ⊢
  go_enter Tryd.func45, Tryd.ntmps45
  simp only [decide_eq_true hin] at hgone
  go_wp2_with fail
  refine (hgone _ hkA).mono ?_
  rintro e w1 ⟨rfl, hk1⟩
  go_wp2_with fail
  go_ret2
  exact ⟨rfl, hkA.transNo hk1⟩

set_option maxRecDepth 100000 in
set_option maxHeartbeats 4000000 in
theorem rseal_ok (b : Nat) (vl vg : Value) (A : List AE) (G : List K3) (k : K3) (bs : ByteArray) (p : List UInt8) (w : World) (hR : RV w b vl vg A G) (hb : ¬ badKey k) (hp : p.length ≤ 65536) (hG : G.length ≤ 1099511627776) (hA : A.length ≤ 1099511627776) (hin : k ∉ G) :
    Calls Tryd.prog 45 #[.pointer (some ⟨b, 0, none⟩), .agg (keyCells k).toArray, .string bs, .string ⟨p.toArray⟩] w fun e w' =>
      e = .returned (.tuple #[.int .u64 ((A.length : Int) + 1), .int .i64 0]) ∧ ∃ vl', RV w' b vl' vg (A ++ [(k, bs, p)]) G ∧ (∀ i, vl'.ownBlock = some i → w.heap.size ≤ i) ∧ Keeps (fun i => i = b) w w' := by
  have hlt := hR.lt
  have hR0 := hR
  obtain ⟨h1, hrl, hrg, h4, h5, h6⟩ := hR
  have hbl := hlt b (.inl rfl)
  have hgone := fun wx (hx : Keeps No w wx) => rgone_any b vl vg A G k wx (hR0.kept hx) hG
  obtain ⟨⟨k0, p0⟩, ⟨k1, p1⟩, ⟨k2, p2⟩⟩ := k
  have hkA : Keeps No w (w.alloc (.cells #[.int .i64 k0, .int .i64 k1, .int .i64 k2] 23)) := (Keeps.refl No w).alloc _
  have hbox : (w.alloc (.cells #[.int .i64 k0, .int .i64 k1, .int .i64 k2] 23)).heap[w.heap.size]? = some (.cells #[.int .i64 k0, .int .i64 k1, .int .i64 k2] 23 (0, 0)) := heap_alloc_new w _
  obtain ⟨al, cl, rfl, hsl, hal⟩ := SlK.ofOwn (xs := A.map recCells) (by decide) (recs_wide A) hrl
  unfold badKey at hb
  simp only at hb
  have e0 : decide (k0 < 0) = false := by simp; omega
  have e1 : decide (k1 < 0) = false := by simp; omega
  have e2 : decide (k2 < 0) = false := by simp; omega
  have e3 : decide ((65536 : Int) < (p.length : Int)) = false := by simp; omega
  clear hb hlt
  unfold keyCells at hgone ⊢
  simp only at hgone ⊢
  go_enter Tryd.func45, Tryd.ntmps45
  simp only [decide_eq_false hin] at hgone
  clear hin
  go_wp2_with fail
  refine (hgone _ hkA).mono ?_
  rintro e w1 ⟨rfl, hk1⟩
  have hkw1 := hkA.transNo hk1
  have hb1 := hkw1.blk h1 (not_No _)
  have hbox1 := hk1.blk hbox (not_No _)
  have hz1 : w.heap.size < w1.heap.size := by have := hk1.size; simp at this; omega
  have HS : ∀ wx, Keeps No w1 wx → (wx.cell? ⟨b, 0, none⟩ = some (.slice al A.length cl) ∧ wx.cell? ⟨w.heap.size, 0, none⟩ = some (.int .i64 k0) ∧ wx.cell? ⟨w.heap.size, 1, none⟩ = some (.int .i64 k1) ∧ wx.cell? ⟨w.heap.size, 2, none⟩ = some (.int .i64 k2) ∧ wx.heap[b]? = some (.cells #[.slice al A.length cl, vg] 70 (0, 0))) :=
    fun wx hx => ⟨cell_of_row wx b 0 _ _ (0, 0) (hx.blk hb1 (not_No _)), cell_of_row wx _ 0 _ _ (0, 0) (hx.blk hbox1 (not_No _)), cell_of_row wx _ 1 _ _ (0, 0) (hx.blk hbox1 (not_No _)), cell_of_row wx _ 2 _ _ (0, 0) (hx.blk hbox1 (not_No _)), hx.blk hb1 (not_No _)⟩
  have HS' := Lib.hid HS
  clear HS hgone
  go_wp2_with fail
  refine region_L (fun wx => wx.cell? ⟨b, 0, none⟩ = some (.slice al A.length cl) ∧ wx.cell? ⟨w.heap.size, 0, none⟩ = some (.int .i64 k0) ∧ wx.cell? ⟨w.heap.size, 1, none⟩ = some (.int .i64 k1) ∧ wx.cell? ⟨w.heap.size, 2, none⟩ = some (.int .i64 k2) ∧ wx.heap[b]? = some (.cells #[.slice al A.length cl, vg] 70 (0, 0))) 15 (by kernel_rfl) (HS'.out _ (Keeps.refl _ _).drew) (fun hS => ?_)
  refine tkL (i := 0) (oi := ⟨some 31, _, _, _, _, _⟩) (v := ?_) rfl (by kernel_rfl) (fun _ _ _ h => h) (by assumption) (by rfl) (fun w hSw => ?_) ?_; rotate_left; (focus (first | (go_simp; done) | (go_simp; with_reducible rfl))); simp only [Act.put, List.setIfInBounds_toArray, List.set_cons_zero, List.set_cons_succ]
  refine tkL (i := 2) (oi := ⟨some 33, _, _, _, _, _⟩) (v := ?_) rfl (by kernel_rfl) (fun _ _ _ h => h) (by assumption) (by rfl) (fun w hSw => ?_) ?_; rotate_left; (focus (first | (go_simp; done) | (go_simp; with_reducible rfl))); simp only [Act.put, List.setIfInBounds_toArray, List.set_cons_zero, List.set_cons_succ]
  refine tkL (i := 3) (oi := ⟨some 34, _, _, _, _, _⟩) (v := ?_) rfl (by kernel_rfl) (fun _ _ _ h => h) (by assumption) (by rfl) (fun w hSw => ?_) ?_; rotate_left; (focus (first | (go_simp; done) | (go_simp; with_reducible rfl))); simp only [Act.put, List.setIfInBounds_toArray, List.set_cons_zero, List.set_cons_succ]
  refine tkL (i := 4) (oi := ⟨some 35, _, _, _, _, _⟩) (v := ?_) rfl (by kernel_rfl) (fun _ _ _ h => h) (by assumption) (by rfl) (fun w hSw => ?_) ?_; rotate_left; (focus (first | (go_simp; done) | (go_simp; with_reducible rfl))); simp only [Act.put, List.setIfInBounds_toArray, List.set_cons_zero, List.set_cons_succ]
  refine tkL (i := 5) (oi := ⟨some 36, _, _, _, _, _⟩) (v := ?_) rfl (by kernel_rfl) (fun _ _ _ h => h) (by assumption) (by rfl) (fun w hSw => ?_) ?_; rotate_left; (focus (first | (go_simp; done) | (go_simp; with_reducible rfl))); simp only [Act.put, List.setIfInBounds_toArray, List.set_cons_zero, List.set_cons_succ]
  refine tkL (i := 7) (oi := ⟨some 38, _, _, _, _, _⟩) (v := ?_) rfl (by kernel_rfl) (fun _ _ _ h => h) (by assumption) (by rfl) (fun w hSw => ?_) ?_; rotate_left; (focus (first | (go_simp; done) | (go_simp; with_reducible rfl))); simp only [Act.put, List.setIfInBounds_toArray, List.set_cons_zero, List.set_cons_succ]
  refine tkL (i := 8) (oi := ⟨some 39, _, _, _, _, _⟩) (v := ?_) rfl (by kernel_rfl) (fun _ _ _ h => h) (by assumption) (by rfl) (fun w hSw => ?_) ?_; rotate_left; (focus (first | (go_simp; done) | (go_simp; with_reducible rfl))); simp only [Act.put, List.setIfInBounds_toArray, List.set_cons_zero, List.set_cons_succ]
  refine tkL (i := 9) (oi := ⟨some 40, _, _, _, _, _⟩) (v := ?_) rfl (by kernel_rfl) (fun _ _ _ h => h) (by assumption) (by rfl) (fun w hSw => ?_) ?_; rotate_left; (focus (first | (go_simp; done) | (go_simp; with_reducible rfl))); simp only [Act.put, List.setIfInBounds_toArray, List.set_cons_zero, List.set_cons_succ]
  refine tkL (i := 10) (oi := ⟨some 41, _, _, _, _, _⟩) (v := ?_) rfl (by kernel_rfl) (fun _ _ _ h => h) (by assumption) (by rfl) (fun w hSw => ?_) ?_; rotate_left; (focus (first | (go_simp; done) | (go_simp; with_reducible rfl))); simp only [Act.put, List.setIfInBounds_toArray, List.set_cons_zero, List.set_cons_succ]
  refine twoL (i := 1) (j := 11) (oi := ⟨some 32, _, _, _, _, _⟩) (oj := ⟨some 42, _, _, _, _, _⟩) rfl rfl (by kernel_rfl) (by rfl) (by rfl) (fun K hK => ?_) (fun K hK => ?_)
  · go_simp
    have hA0 : (w1.alloc (.cells #[] 134)).drew.ownsRow w1.heap.size 134 5 (.slice (some ⟨w1.heap.size, 0, none⟩) 0 0) 0 [] := World.ownsRow_made w1 #[] 0 (by omega) (Nat.zero_le _) (by simp)
    have hkX : Keeps No w1 (w1.alloc (.cells #[] 134)).drew := ((Keeps.refl No w1).alloc _).drew
    refine hK.out (fun wx => wx.cell? ⟨b, 0, none⟩ = some (.slice al A.length cl) ∧ wx.cell? ⟨w.heap.size, 0, none⟩ = some (.int .i64 k0) ∧ wx.cell? ⟨w.heap.size, 1, none⟩ = some (.int .i64 k1) ∧ wx.cell? ⟨w.heap.size, 2, none⟩ = some (.int .i64 k2) ∧ wx.heap[b]? = some (.cells #[.slice al A.length cl, vg] 70 (0, 0))) _ _ (fun _ h => h) (fun _ => HS'.out _ hkX) ?_
    clear hK K hS
    intro hS
    replace hS := hS rfl
    refine twoL (i := 6) (j := 11) (oi := ⟨some 37, _, _, _, _, _⟩) (oj := ⟨some 42, _, _, _, _, _⟩) rfl rfl (by kernel_rfl) (by rfl) (by rfl) (fun K hK => ?_) (fun K hK => ?_)
    · skip
      refine wp_app_ownK (.tmp 32) (.tmp 36) 67 rfl w1.heap.size 134 _ 5 56 Tryd.underlying67 entry_info rfl (by decide) (by decide) _ 0 [] rfl hA0 _ A.length cl (A.map recCells) rfl (hsl.kept (hkw1.transNo hkX)) (recs_one A) (by omega) ?hbase ?_
      case hbase => simp
      intro v2 w2 hown2 hg2 hat2
      have hX2 : Keeps No w1 w2 := hkX.grown hg2 (fun i hi hlt => absurd hlt (by have hi' : w1.heap.size = i := (by injection hi); omega))
      rw [Nat.zero_add, List.nil_append] at hown2
      obtain ⟨a2, c2, rfl, hs2, _⟩ := SlK.ofOwn (by decide) (recs_wide A) hown2
      refine hK.out (fun wx => wx.cell? ⟨b, 0, none⟩ = some (.slice al A.length cl) ∧ wx.cell? ⟨w.heap.size, 0, none⟩ = some (.int .i64 k0) ∧ wx.cell? ⟨w.heap.size, 1, none⟩ = some (.int .i64 k1) ∧ wx.cell? ⟨w.heap.size, 2, none⟩ = some (.int .i64 k2) ∧ wx.heap[b]? = some (.cells #[.slice al A.length cl, vg] 70 (0, 0))) _ _ (fun _ h => h) (fun _ => HS'.out _ hX2) ?_
      clear hK K hS
      intro hS
      replace hS := hS rfl
      refine aloneL (i := 11) (oi := ⟨some 42, _, _, _, _, _⟩) rfl (by kernel_rfl) (by rfl) (fun K hK => ?_); go_simp
      have hownF := hown2.alloc (.cells (recCells ((⟨k0, p0⟩, ⟨k1, p1⟩, ⟨k2, p2⟩), bs, p)).toArray 134)
      have hsF := SlK.one w2 (recCells ((⟨k0, p0⟩, ⟨k1, p1⟩, ⟨k2, p2⟩), bs, p)) 134 rfl
      have hXF := hX2.alloc (.cells (recCells ((⟨k0, p0⟩, ⟨k1, p1⟩, ⟨k2, p2⟩), bs, p)).toArray 134)
      have hzF := hXF.size
      refine hK.out (fun wx => wx.cell? ⟨b, 0, none⟩ = some (.slice al A.length cl) ∧ wx.cell? ⟨w.heap.size, 0, none⟩ = some (.int .i64 k0) ∧ wx.cell? ⟨w.heap.size, 1, none⟩ = some (.int .i64 k1) ∧ wx.cell? ⟨w.heap.size, 2, none⟩ = some (.int .i64 k2) ∧ wx.heap[b]? = some (.cells #[.slice al A.length cl, vg] 70 (0, 0))) _ _ (fun _ h => h) (fun _ => HS'.out _ hXF) ?_
      clear hK K hS
      intro hS
      replace hS := hS rfl
      refine aloneL (i := 12) (oi := ⟨some 43, _, _, _, _, _⟩) rfl (by kernel_rfl) (by rfl) (fun K hK => ?_)
      refine wp_app_ownK (.tmp 37) (.tmp 42) 67 rfl w1.heap.size 134 _ 5 56 Tryd.underlying67 entry_info rfl (by decide) (by decide) _ A.length _ rfl hownF _ 1 1 [(recCells ((⟨k0, p0⟩, ⟨k1, p1⟩, ⟨k2, p2⟩), bs, p))] rfl hsF ?h1z (by omega) ?hbase ?_
      case h1z => exact recs_one [_]
      case hbase => exact hXF.size
      intro v3 w3 hown3 hg3 hat3
      have hX3 : Keeps No w1 w3 := hXF.grown hg3 (fun i hi hlt => absurd hlt (by have := (hownF.lt i hi).1; omega))
      have hL3 : (A.map recCells).flatten ++ [(recCells ((⟨k0, p0⟩, ⟨k1, p1⟩, ⟨k2, p2⟩), bs, p))].flatten = ((A ++ [(((⟨k0, p0⟩, ⟨k1, p1⟩, ⟨k2, p2⟩), bs, p) : AE)]).map recCells).flatten := by simp
      rw [hL3] at hown3
      obtain ⟨a3, c3, rfl, hs3, _⟩ := SlK.ofOwn (by decide) (recs_wide _) hown3
      have hf3 := frozen_of_row w3 b 0 _ _ (hX3.blk hb1 (not_No _))
      refine hK.out (fun wx => wx.cell? ⟨b, 0, none⟩ = some (.slice al A.length cl) ∧ wx.cell? ⟨w.heap.size, 0, none⟩ = some (.int .i64 k0) ∧ wx.cell? ⟨w.heap.size, 1, none⟩ = some (.int .i64 k1) ∧ wx.cell? ⟨w.heap.size, 2, none⟩ = some (.int .i64 k2) ∧ wx.heap[b]? = some (.cells #[.slice al A.length cl, vg] 70 (0, 0))) _ _ (fun _ h => h) (fun _ => HS'.out _ hX3) ?_
      clear hK K hS
      intro hS
      replace hS := hS rfl
      refine aloneL (i := 13) (oi := ⟨some 44, _, _, _, _, _⟩) rfl (by kernel_rfl) (by rfl) (fun K hK => ?_); go_simp
      refine hK.out (fun wx => wx.cell? ⟨b, 0, none⟩ = some (.slice al A.length cl) ∧ wx.cell? ⟨w.heap.size, 0, none⟩ = some (.int .i64 k0) ∧ wx.cell? ⟨w.heap.size, 1, none⟩ = some (.int .i64 k1) ∧ wx.cell? ⟨w.heap.size, 2, none⟩ = some (.int .i64 k2) ∧ wx.heap[b]? = some (.cells #[.slice al A.length cl, vg] 70 (0, 0))) _ _ (fun _ h => h) (fun _ => hS) ?_
      clear hK K
      intro _
      refine tkL (i := 14) (oi := ⟨some 45, _, _, _, _, _⟩) (v := ?_) rfl (by kernel_rfl) (fun _ _ _ h => h) (by assumption) (by rfl) (fun w hSw => ?_) ?_; rotate_left; (focus (first | (go_simp; done) | (go_simp; with_reducible rfl))); simp only [Act.put, List.setIfInBounds_toArray, List.set_cons_zero, List.set_cons_succ]
      refine aloneL (i := 15) (oi := ⟨none, _, _, _, _, _⟩) rfl (by kernel_rfl) (by rfl) (fun K hK => ?_); go_simp
      refine hK.out (fun wx => wx.cell? ⟨b, 0, none⟩ = some (.slice al A.length cl) ∧ wx.cell? ⟨w.heap.size, 0, none⟩ = some (.int .i64 k0) ∧ wx.cell? ⟨w.heap.size, 1, none⟩ = some (.int .i64 k1) ∧ wx.cell? ⟨w.heap.size, 2, none⟩ = some (.int .i64 k2) ∧ wx.heap[b]? = some (.cells #[.slice al A.length cl, vg] 70 (0, 0))) _ _ (fun _ h => h) (fun e => absurd (show true = false from e) (by decide)) ?_
      clear hK K hS
      intro hS
      refine doneL (by kernel_rfl) ?_ _
      clear hS
      have hc3 := cell_of_row w3 b 0 _ _ (0, 0) (hX3.blk hb1 (not_No _))
      go_wp2_with fail
      go_ret2
      have hlow : ∀ i, (Value.slice a3 (A.length + 1) c3).ownBlock = some i → w1.heap.size ≤ i := fun i hi => (hown3.lt i hi).1
      have hbl1 : b < w1.heap.size := by omega
      have hgl := fun i hi => hR0.lt i (.inr (.inr hi))
      refine ⟨rfl, _, ⟨?_, (Keeps.set w3 b 0 _).own (own_zero (base := w1.heap.size) ?_) (fun i hi e => by have := hlow i hi; omega), ((hkw1.transNo hX3).noTrans (Keeps.set w3 b 0 _) (fun _ _ h => h)).own hrg (fun i hi e => h5 (by rw [hi, e])), fun e => by have := hlow b e; omega, h5, fun i hi hg => by have := hlow i hi; have := hgl i hg; omega⟩, fun i hi => by have := hlow i hi; omega, (hkw1.transNo hX3).noTrans (Keeps.set w3 b 0 _) (fun _ _ h => h)⟩
      · rw [heap_setCell_same w3 b 0 _ _ _ (hX3.blk hb1 (not_No _))]; rfl
      · rw [List.length_append]; exact hown3
    · go_simp
      have hA1 : ((w1.alloc (.cells #[] 134)).alloc (.cells (recCells ((⟨k0, p0⟩, ⟨k1, p1⟩, ⟨k2, p2⟩), bs, p)).toArray 134)).drew.ownsRow w1.heap.size 134 5 (.slice (some ⟨w1.heap.size, 0, none⟩) 0 0) 0 [] := World.ownsRow.alloc (World.ownsRow_made w1 #[] 0 (by omega) (Nat.zero_le _) (by simp)) _
      have hC1 : SlK ((w1.alloc (.cells #[] 134)).alloc (.cells (recCells ((⟨k0, p0⟩, ⟨k1, p1⟩, ⟨k2, p2⟩), bs, p)).toArray 134)).drew 5 (some ⟨w1.heap.size + 1, 0, none⟩) 1 1 [(recCells ((⟨k0, p0⟩, ⟨k1, p1⟩, ⟨k2, p2⟩), bs, p))] := by
        have := SlK.one (w1.alloc (.cells #[] 134)) (recCells ((⟨k0, p0⟩, ⟨k1, p1⟩, ⟨k2, p2⟩), bs, p)) 134 rfl
        rw [show (w1.alloc (.cells #[] 134)).heap.size = w1.heap.size + 1 from by simp] at this
        exact this.kept ((Keeps.refl No _).drew)
      have hkX1 : Keeps No w1 ((w1.alloc (.cells #[] 134)).alloc (.cells (recCells ((⟨k0, p0⟩, ⟨k1, p1⟩, ⟨k2, p2⟩), bs, p)).toArray 134)).drew := (((Keeps.refl No w1).alloc _).alloc _).drew
      refine hK.out (fun wx => wx.cell? ⟨b, 0, none⟩ = some (.slice al A.length cl) ∧ wx.cell? ⟨w.heap.size, 0, none⟩ = some (.int .i64 k0) ∧ wx.cell? ⟨w.heap.size, 1, none⟩ = some (.int .i64 k1) ∧ wx.cell? ⟨w.heap.size, 2, none⟩ = some (.int .i64 k2) ∧ wx.heap[b]? = some (.cells #[.slice al A.length cl, vg] 70 (0, 0))) _ _ (fun _ h => h) (fun _ => HS'.out _ hkX1) ?_
      clear hK K hS
      intro hS
      replace hS := hS rfl
      refine aloneL (i := 6) (oi := ⟨some 37, _, _, _, _, _⟩) rfl (by kernel_rfl) (by rfl) (fun K hK => ?_)
      refine wp_app_ownK (.tmp 32) (.tmp 36) 67 rfl w1.heap.size 134 _ 5 56 Tryd.underlying67 entry_info rfl (by decide) (by decide) _ 0 [] rfl hA1 _ A.length cl (A.map recCells) rfl (hsl.kept (hkw1.transNo hkX1)) (recs_one A) (by omega) ?hbase ?_
      case hbase => simp; omega
      intro v2 w2 hown2 hg2 hat2
      have hXF : Keeps No w1 w2 := hkX1.grown hg2 (fun i hi hlt => absurd hlt (by have hi' : w1.heap.size = i := (by injection hi); omega))
      have hsF := hC1.keep ((Keeps.refl (fun i => (Value.slice (some ⟨w1.heap.size, 0, none⟩) 0 0).ownBlock = some i) _).grown hg2 (fun i hi _ => hi)) (fun _ h => by simp [Value.ownBlock] at h)
      rw [Nat.zero_add, List.nil_append] at hown2
      obtain ⟨a2, c2, rfl, hs2, _⟩ := SlK.ofOwn (by decide) (recs_wide A) hown2
      have hownF := hown2
      have hzF := hXF.size
      refine hK.out (fun wx => wx.cell? ⟨b, 0, none⟩ = some (.slice al A.length cl) ∧ wx.cell? ⟨w.heap.size, 0, none⟩ = some (.int .i64 k0) ∧ wx.cell? ⟨w.heap.size, 1, none⟩ = some (.int .i64 k1) ∧ wx.cell? ⟨w.heap.size, 2, none⟩ = some (.int .i64 k2) ∧ wx.heap[b]? = some (.cells #[.slice al A.length cl, vg] 70 (0, 0))) _ _ (fun _ h => h) (fun _ => HS'.out _ hXF) ?_
      clear hK K hS
      intro hS
      replace hS := hS rfl
      refine aloneL (i := 12) (oi := ⟨some 43, _, _, _, _, _⟩) rfl (by kernel_rfl) (by rfl) (fun K hK => ?_)
      refine wp_app_ownK (.tmp 37) (.tmp 42) 67 rfl w1.heap.size 134 _ 5 56 Tryd.underlying67 entry_info rfl (by decide) (by decide) _ A.length _ rfl hownF _ 1 1 [(recCells ((⟨k0, p0⟩, ⟨k1, p1⟩, ⟨k2, p2⟩), bs, p))] rfl hsF ?h1z (by omega) ?hbase ?_
      case h1z => exact recs_one [_]
      case hbase => exact hXF.size
      intro v3 w3 hown3 hg3 hat3
      have hX3 : Keeps No w1 w3 := hXF.grown hg3 (fun i hi hlt => absurd hlt (by have := (hownF.lt i hi).1; omega))
      have hL3 : (A.map recCells).flatten ++ [(recCells ((⟨k0, p0⟩, ⟨k1, p1⟩, ⟨k2, p2⟩), bs, p))].flatten = ((A ++ [(((⟨k0, p0⟩, ⟨k1, p1⟩, ⟨k2, p2⟩), bs, p) : AE)]).map recCells).flatten := by simp
      rw [hL3] at hown3
      obtain ⟨a3, c3, rfl, hs3, _⟩ := SlK.ofOwn (by decide) (recs_wide _) hown3
      have hf3 := frozen_of_row w3 b 0 _ _ (hX3.blk hb1 (not_No _))
      refine hK.out (fun wx => wx.cell? ⟨b, 0, none⟩ = some (.slice al A.length cl) ∧ wx.cell? ⟨w.heap.size, 0, none⟩ = some (.int .i64 k0) ∧ wx.cell? ⟨w.heap.size, 1, none⟩ = some (.int .i64 k1) ∧ wx.cell? ⟨w.heap.size, 2, none⟩ = some (.int .i64 k2) ∧ wx.heap[b]? = some (.cells #[.slice al A.length cl, vg] 70 (0, 0))) _ _ (fun _ h => h) (fun _ => HS'.out _ hX3) ?_
      clear hK K hS
      intro hS
      replace hS := hS rfl
      refine aloneL (i := 13) (oi := ⟨some 44, _, _, _, _, _⟩) rfl (by kernel_rfl) (by rfl) (fun K hK => ?_); go_simp
      refine hK.out (fun wx => wx.cell? ⟨b, 0, none⟩ = some (.slice al A.length cl) ∧ wx.cell? ⟨w.heap.size, 0, none⟩ = some (.int .i64 k0) ∧ wx.cell? ⟨w.heap.size, 1, none⟩ = some (.int .i64 k1) ∧ wx.cell? ⟨w.heap.size, 2, none⟩ = some (.int .i64 k2) ∧ wx.heap[b]? = some (.cells #[.slice al A.length cl, vg] 70 (0, 0))) _ _ (fun _ h => h) (fun _ => hS) ?_
      clear hK K
      intro _
      refine tkL (i := 14) (oi := ⟨some 45, _, _, _, _, _⟩) (v := ?_) rfl (by kernel_rfl) (fun _ _ _ h => h) (by assumption) (by rfl) (fun w hSw => ?_) ?_; rotate_left; (focus (first | (go_simp; done) | (go_simp; with_reducible rfl))); simp only [Act.put, List.setIfInBounds_toArray, List.set_cons_zero, List.set_cons_succ]
      refine aloneL (i := 15) (oi := ⟨none, _, _, _, _, _⟩) rfl (by kernel_rfl) (by rfl) (fun K hK => ?_); go_simp
      refine hK.out (fun wx => wx.cell? ⟨b, 0, none⟩ = some (.slice al A.length cl) ∧ wx.cell? ⟨w.heap.size, 0, none⟩ = some (.int .i64 k0) ∧ wx.cell? ⟨w.heap.size, 1, none⟩ = some (.int .i64 k1) ∧ wx.cell? ⟨w.heap.size, 2, none⟩ = some (.int .i64 k2) ∧ wx.heap[b]? = some (.cells #[.slice al A.length cl, vg] 70 (0, 0))) _ _ (fun _ h => h) (fun e => absurd (show true = false from e) (by decide)) ?_
      clear hK K hS
      intro hS
      refine doneL (by kernel_rfl) ?_ _
      clear hS
      have hc3 := cell_of_row w3 b 0 _ _ (0, 0) (hX3.blk hb1 (not_No _))
      go_wp2_with fail
      go_ret2
      have hlow : ∀ i, (Value.slice a3 (A.length + 1) c3).ownBlock = some i → w1.heap.size ≤ i := fun i hi => (hown3.lt i hi).1
      have hbl1 : b < w1.heap.size := by omega
      have hgl := fun i hi => hR0.lt i (.inr (.inr hi))
      refine ⟨rfl, _, ⟨?_, (Keeps.set w3 b 0 _).own (own_zero (base := w1.heap.size) ?_) (fun i hi e => by have := hlow i hi; omega), ((hkw1.transNo hX3).noTrans (Keeps.set w3 b 0 _) (fun _ _ h => h)).own hrg (fun i hi e => h5 (by rw [hi, e])), fun e => by have := hlow b e; omega, h5, fun i hi hg => by have := hlow i hi; have := hgl i hg; omega⟩, fun i hi => by have := hlow i hi; omega, (hkw1.transNo hX3).noTrans (Keeps.set w3 b 0 _) (fun _ _ h => h)⟩
      · rw [heap_setCell_same w3 b 0 _ _ _ (hX3.blk hb1 (not_No _))]; rfl
      · rw [List.length_append]; exact hown3
  · go_simp
    have hC0 : SlK (w1.alloc (.cells (recCells ((⟨k0, p0⟩, ⟨k1, p1⟩, ⟨k2, p2⟩), bs, p)).toArray 134)).drew 5 (some ⟨w1.heap.size, 0, none⟩) 1 1 [(recCells ((⟨k0, p0⟩, ⟨k1, p1⟩, ⟨k2, p2⟩), bs, p))] := (SlK.one w1 (recCells ((⟨k0, p0⟩, ⟨k1, p1⟩, ⟨k2, p2⟩), bs, p)) 134 rfl).kept ((Keeps.refl No _).drew)
    have hkX : Keeps No w1 (w1.alloc (.cells (recCells ((⟨k0, p0⟩, ⟨k1, p1⟩, ⟨k2, p2⟩), bs, p)).toArray 134)).drew := ((Keeps.refl No w1).alloc _).drew
    refine hK.out (fun wx => wx.cell? ⟨b, 0, none⟩ = some (.slice al A.length cl) ∧ wx.cell? ⟨w.heap.size, 0, none⟩ = some (.int .i64 k0) ∧ wx.cell? ⟨w.heap.size, 1, none⟩ = some (.int .i64 k1) ∧ wx.cell? ⟨w.heap.size, 2, none⟩ = some (.int .i64 k2) ∧ wx.heap[b]? = some (.cells #[.slice al A.length cl, vg] 70 (0, 0))) _ _ (fun _ h => h) (fun _ => HS'.out _ hkX) ?_
    clear hK K hS
    intro hS
    replace hS := hS rfl
    refine aloneL (i := 1) (oi := ⟨some 32, _, _, _, _, _⟩) rfl (by kernel_rfl) (by rfl) (fun K hK => ?_); go_simp
    have hA1 : ((w1.alloc (.cells (recCells ((⟨k0, p0⟩, ⟨k1, p1⟩, ⟨k2, p2⟩), bs, p)).toArray 134)).alloc (.cells #[] 134)).drew.ownsRow w1.heap.size 134 5 (.slice (some ⟨w1.heap.size + 1, 0, none⟩) 0 0) 0 [] := by
      have : ((w1.alloc (.cells (recCells ((⟨k0, p0⟩, ⟨k1, p1⟩, ⟨k2, p2⟩), bs, p)).toArray 134)).alloc (.cells #[] 134)).ownsRow w1.heap.size 134 5 (.slice (some ⟨(w1.alloc (.cells (recCells ((⟨k0, p0⟩, ⟨k1, p1⟩, ⟨k2, p2⟩), bs, p)).toArray 134)).heap.size, 0, none⟩) 0 0) 0 [] := World.ownsRow_made (w1.alloc (.cells (recCells ((⟨k0, p0⟩, ⟨k1, p1⟩, ⟨k2, p2⟩), bs, p)).toArray 134)) #[] 0 (by simp) (Nat.zero_le _) (by simp)
      rw [show (w1.alloc (.cells (recCells ((⟨k0, p0⟩, ⟨k1, p1⟩, ⟨k2, p2⟩), bs, p)).toArray 134)).heap.size = w1.heap.size + 1 from by simp] at this
      exact this
    have hC1 : SlK ((w1.alloc (.cells (recCells ((⟨k0, p0⟩, ⟨k1, p1⟩, ⟨k2, p2⟩), bs, p)).toArray 134)).alloc (.cells #[] 134)).drew 5 (some ⟨w1.heap.size, 0, none⟩) 1 1 [(recCells ((⟨k0, p0⟩, ⟨k1, p1⟩, ⟨k2, p2⟩), bs, p))] := (SlK.one w1 (recCells ((⟨k0, p0⟩, ⟨k1, p1⟩, ⟨k2, p2⟩), bs, p)) 134 rfl).kept (((Keeps.refl No _).alloc _).drew)
    have hkX1 : Keeps No w1 ((w1.alloc (.cells (recCells ((⟨k0, p0⟩, ⟨k1, p1⟩, ⟨k2, p2⟩), bs, p)).toArray 134)).alloc (.cells #[] 134)).drew := (((Keeps.refl No w1).alloc _).alloc _).drew
    refine hK.out (fun wx => wx.cell? ⟨b, 0, none⟩ = some (.slice al A.length cl) ∧ wx.cell? ⟨w.heap.size, 0, none⟩ = some (.int .i64 k0) ∧ wx.cell? ⟨w.heap.size, 1, none⟩ = some (.int .i64 k1) ∧ wx.cell? ⟨w.heap.size, 2, none⟩ = some (.int .i64 k2) ∧ wx.heap[b]? = some (.cells #[.slice al A.length cl, vg] 70 (0, 0))) _ _ (fun _ h => h) (fun _ => HS'.out _ hkX1) ?_
    clear hK K hS
    intro hS
    replace hS := hS rfl
    refine aloneL (i := 6) (oi := ⟨some 37, _, _, _, _, _⟩) rfl (by kernel_rfl) (by rfl) (fun K hK => ?_)
    refine wp_app_ownK (.tmp 32) (.tmp 36) 67 rfl w1.heap.size 134 _ 5 56 Tryd.underlying67 entry_info rfl (by decide) (by decide) _ 0 [] rfl hA1 _ A.length cl (A.map recCells) rfl (hsl.kept (hkw1.transNo hkX1)) (recs_one A) (by omega) ?hbase ?_
    case hbase => simp; omega
    intro v2 w2 hown2 hg2 hat2
    have hXF : Keeps No w1 w2 := hkX1.grown hg2 (fun i hi hlt => absurd hlt (by have hi' : w1.heap.size + 1 = i := (by injection hi); omega))
    have hsF := hC1.keep ((Keeps.refl (fun i => (Value.slice (some ⟨w1.heap.size + 1, 0, none⟩) 0 0).ownBlock = some i) _).grown hg2 (fun i hi _ => hi)) (fun _ h => by simp [Value.ownBlock] at h)
    rw [Nat.zero_add, List.nil_append] at hown2
    obtain ⟨a2, c2, rfl, hs2, _⟩ := SlK.ofOwn (by decide) (recs_wide A) hown2
    have hownF := hown2
    have hzF := hXF.size
    refine hK.out (fun wx => wx.cell? ⟨b, 0, none⟩ = some (.slice al A.length cl) ∧ wx.cell? ⟨w.heap.size, 0, none⟩ = some (.int .i64 k0) ∧ wx.cell? ⟨w.heap.size, 1, none⟩ = some (.int .i64 k1) ∧ wx.cell? ⟨w.heap.size, 2, none⟩ = some (.int .i64 k2) ∧ wx.heap[b]? = some (.cells #[.slice al A.length cl, vg] 70 (0, 0))) _ _ (fun _ h => h) (fun _ => HS'.out _ hXF) ?_
    clear hK K hS
    intro hS
    replace hS := hS rfl
    refine aloneL (i := 12) (oi := ⟨some 43, _, _, _, _, _⟩) rfl (by kernel_rfl) (by rfl) (fun K hK => ?_)
    refine wp_app_ownK (.tmp 37) (.tmp 42) 67 rfl w1.heap.size 134 _ 5 56 Tryd.underlying67 entry_info rfl (by decide) (by decide) _ A.length _ rfl hownF _ 1 1 [(recCells ((⟨k0, p0⟩, ⟨k1, p1⟩, ⟨k2, p2⟩), bs, p))] rfl hsF ?h1z (by omega) ?hbase ?_
    case h1z => exact recs_one [_]
    case hbase => exact hXF.size
    intro v3 w3 hown3 hg3 hat3
    have hX3 : Keeps No w1 w3 := hXF.grown hg3 (fun i hi hlt => absurd hlt (by have := (hownF.lt i hi).1; omega))
    have hL3 : (A.map recCells).flatten ++ [(recCells ((⟨k0, p0⟩, ⟨k1, p1⟩, ⟨k2, p2⟩), bs, p))].flatten = ((A ++ [(((⟨k0, p0⟩, ⟨k1, p1⟩, ⟨k2, p2⟩), bs, p) : AE)]).map recCells).flatten := by simp
    rw [hL3] at hown3
    obtain ⟨a3, c3, rfl, hs3, _⟩ := SlK.ofOwn (by decide) (recs_wide _) hown3
    have hf3 := frozen_of_row w3 b 0 _ _ (hX3.blk hb1 (not_No _))
    refine hK.out (fun wx => wx.cell? ⟨b, 0, none⟩ = some (.slice al A.length cl) ∧ wx.cell? ⟨w.heap.size, 0, none⟩ = some (.int .i64 k0) ∧ wx.cell? ⟨w.heap.size, 1, none⟩ = some (.int .i64 k1) ∧ wx.cell? ⟨w.heap.size, 2, none⟩ = some (.int .i64 k2) ∧ wx.heap[b]? = some (.cells #[.slice al A.length cl, vg] 70 (0, 0))) _ _ (fun _ h => h) (fun _ => HS'.out _ hX3) ?_
    clear hK K hS
    intro hS
    replace hS := hS rfl
    refine aloneL (i := 13) (oi := ⟨some 44, _, _, _, _, _⟩) rfl (by kernel_rfl) (by rfl) (fun K hK => ?_); go_simp
    refine hK.out (fun wx => wx.cell? ⟨b, 0, none⟩ = some (.slice al A.length cl) ∧ wx.cell? ⟨w.heap.size, 0, none⟩ = some (.int .i64 k0) ∧ wx.cell? ⟨w.heap.size, 1, none⟩ = some (.int .i64 k1) ∧ wx.cell? ⟨w.heap.size, 2, none⟩ = some (.int .i64 k2) ∧ wx.heap[b]? = some (.cells #[.slice al A.length cl, vg] 70 (0, 0))) _ _ (fun _ h => h) (fun _ => hS) ?_
    clear hK K
    intro _
    refine tkL (i := 14) (oi := ⟨some 45, _, _, _, _, _⟩) (v := ?_) rfl (by kernel_rfl) (fun _ _ _ h => h) (by assumption) (by rfl) (fun w hSw => ?_) ?_; rotate_left; (focus (first | (go_simp; done) | (go_simp; with_reducible rfl))); simp only [Act.put, List.setIfInBounds_toArray, List.set_cons_zero, List.set_cons_succ]
    refine aloneL (i := 15) (oi := ⟨none, _, _, _, _, _⟩) rfl (by kernel_rfl) (by rfl) (fun K hK => ?_); go_simp
    refine hK.out (fun wx => wx.cell? ⟨b, 0, none⟩ = some (.slice al A.length cl) ∧ wx.cell? ⟨w.heap.size, 0, none⟩ = some (.int .i64 k0) ∧ wx.cell? ⟨w.heap.size, 1, none⟩ = some (.int .i64 k1) ∧ wx.cell? ⟨w.heap.size, 2, none⟩ = some (.int .i64 k2) ∧ wx.heap[b]? = some (.cells #[.slice al A.length cl, vg] 70 (0, 0))) _ _ (fun _ h => h) (fun e => absurd (show true = false from e) (by decide)) ?_
    clear hK K hS
    intro hS
    refine doneL (by kernel_rfl) ?_ _
    clear hS
    have hc3 := cell_of_row w3 b 0 _ _ (0, 0) (hX3.blk hb1 (not_No _))
    go_wp2_with fail
    go_ret2
    have hlow : ∀ i, (Value.slice a3 (A.length + 1) c3).ownBlock = some i → w1.heap.size ≤ i := fun i hi => (hown3.lt i hi).1
    have hbl1 : b < w1.heap.size := by omega
    have hgl := fun i hi => hR0.lt i (.inr (.inr hi))
    refine ⟨rfl, _, ⟨?_, (Keeps.set w3 b 0 _).own (own_zero (base := w1.heap.size) ?_) (fun i hi e => by have := hlow i hi; omega), ((hkw1.transNo hX3).noTrans (Keeps.set w3 b 0 _) (fun _ _ h => h)).own hrg (fun i hi e => h5 (by rw [hi, e])), fun e => by have := hlow b e; omega, h5, fun i hi hg => by have := hlow i hi; have := hgl i hg; omega⟩, fun i hi => by have := hlow i hi; omega, (hkw1.transNo hX3).noTrans (Keeps.set w3 b 0 _) (fun _ _ h => h)⟩
    · rw [heap_setCell_same w3 b 0 _ _ _ (hX3.blk hb1 (not_No _))]; rfl
    · rw [List.length_append]; exact hown3

theorem openA_hit (A : List AE) (G : List K3) (k : K3) (bs : ByteArray) (h j : Nat) (hG : k ∉ G) (hj : j < A.length) (e : j + 1 = h) (e1 : (A[j]).1 = k) (e2 : (A[j]).2.1 = bs) : openA A G k bs h = ((A[j]).2.2, 0) := by
  subst e
  unfold openA
  rw [if_neg hG, if_neg (by omega), Nat.add_sub_cancel, List.getElem?_eq_getElem hj]
  simp only
  rw [if_pos ⟨e1, e2⟩]
theorem openA_miss (A : List AE) (G : List K3) (k : K3) (bs : ByteArray) (h : Nat) (hG : k ∉ G) (hno : ∀ i (hi : i < A.length), ¬ (i + 1 = h ∧ (A[i]).1 = k ∧ (A[i]).2.1 = bs)) : openA A G k bs h = ([], 51) := by
  unfold openA
  rw [if_neg hG]
  by_cases h0 : h = 0
  · rw [if_pos h0]
  rw [if_neg h0]
  by_cases hl : h - 1 < A.length
  · rw [List.getElem?_eq_getElem hl]
    simp only
    rw [if_neg (fun e => hno (h - 1) hl ⟨by omega, e⟩)]
  · rw [List.getElem?_eq_none (by omega)]

set_option maxRecDepth 100000 in
set_option maxHeartbeats 4000000 in
theorem ropen_any (b : Nat) (vl vg : Value) (A : List AE) (G : List K3) (k : K3) (bs : ByteArray) (h : Nat) (w : World) (hR : RV w b vl vg A G) (hh : h < 18446744073709551616) (hG : G.length ≤ 1099511627776) (hA : A.length ≤ 1099511627776) :
    Calls Tryd.prog 66 #[.pointer (some ⟨b, 0, none⟩), .agg (keyCells k).toArray, .string bs, .int .u64 (h : Int)] w fun e w' =>
      e = .returned (.tuple #[.string ⟨(openA A G k bs h).1.toArray⟩, .int .i64 (openA A G k bs h).2]) ∧ Keeps No w w' := by
  have hlt := hR.lt
  have hR0 := hR
  obtain ⟨h1, hrl, hrg, h4, h5, h6⟩ := hR
  have hbl := hlt b (.inl rfl)
  have hgone := fun wx (hx : Keeps No w wx) => rgone_any b vl vg A G k wx (hR0.kept hx) hG
  have hkA : Keeps No w (w.alloc (.cells (keyCells k).toArray 23)) := (Keeps.refl No w).alloc _
  have hbox := heap_alloc_new w (.cells (keyCells k).toArray 23)
  obtain ⟨al, cl, rfl, hsl, hal⟩ := SlK.ofOwn (xs := A.map recCells) (by decide) (recs_wide A) hrl
  unfold keyCells at hgone hkA hbox ⊢
  go_enter Tryd.func66, Tryd.ntmps66
  by_cases hin : k ∈ G
  · simp only [decide_eq_true hin] at hgone
    have hr : openA A G k bs h = ([], 50) := by unfold openA; rw [if_pos hin]
    have Hr := Lib.hid hr
    clear hr hin
    go_wp2_with fail
    refine (hgone _ hkA).mono ?_
    rintro e w1 ⟨rfl, hk1⟩
    go_wp2_with fail
    go_ret2
    rw [Hr.out]
    exact ⟨rfl, hkA.transNo hk1⟩
  simp only [decide_eq_false hin] at hgone
  have Hin := Lib.hid hin
  clear hin
  go_wp2_with fail
  refine (hgone _ hkA).mono ?_
  rintro e w1 ⟨rfl, hk1⟩
  have hkw1 := hkA.transNo hk1
  have hc0 := cell_of_row w1 b 0 _ _ (0, 0) (hkw1.blk h1 (not_No _))
  have hbox1 := hk1.blk hbox (not_No _)
  have hz1 : w.heap.size < w1.heap.size := by have := hk1.size; simp at this; omega
  clear hgone
  go_wp2_with fail
  go_loopg [10, 11, 20] A.length (fun q _ _ i wr => ∃ (j : Nat), j ≤ A.length ∧ q = A.length - j ∧ i = .int .i64 j ∧ (∀ i (hi : i < A.length), i < j → ¬ (i + 1 = h ∧ (A[i]).1 = k ∧ (A[i]).2.1 = bs)) ∧ Keeps No w1 wr)
  case atStart => exact ⟨0, Nat.zero_le _, rfl, rfl, fun i hi h => absurd h (by omega), Keeps.refl _ _⟩
  case round =>
    obtain ⟨j, hj, hq, rfl, hno, hkr⟩ := hrel
    have Hq := Lib.hid hq
    have Hno := Lib.hid hno
    clear hq hno
    have hbr := hkr.blk hbox1 (not_No _)
    have hzr : w.heap.size < wr.heap.size := by have := hkr.size; omega
    have b0 := cell_of_row wr _ 0 _ _ (0, 0) hbr
    have b1 := cell_of_row wr _ 1 _ _ (0, 0) hbr
    have b2 := cell_of_row wr _ 2 _ _ (0, 0) hbr
    by_cases hlt2 : j < A.length
    · have hsr := hsl.kept (hkw1.transNo hkr)
      have hix := hsr.ix (P := Tryd.prog) Tryd.underlying67 (by kernel_rfl) hlt2 .i64
      obtain ⟨hld, _⟩ := hsr.load (P := Tryd.prog) (ty := 134) Tryd.underlying134 rfl (by kernel_rfl) hlt2
      obtain ⟨x, hx⟩ : ∃ x, x = A[j] := ⟨_, rfl⟩
      have hxc : (A.map recCells).getD j [] = recCells x := by rw [hx]; simp [hlt2]
      rw [hxc] at hld
      have heql := fun wy => key_eql x.1 k wy
      have hbb0 := bytes_beq x.2.1 bs
      have hbb1 := beq_toListBytes x.2.1 bs
      unfold recCells keyCells at hld
      unfold keyCells at heql
      have hst : ¬ (j + 1 = h ∧ x.1 = k ∧ x.2.1 = bs) → ∀ i (hi : i < A.length), i < j + 1 → ¬ (i + 1 = h ∧ (A[i]).1 = k ∧ (A[i]).2.1 = bs) := fun hn i hi hij => by
        rcases Nat.lt_or_ge i j with h' | h'
        · exact Hno.out i hi h'
        · obtain rfl : i = j := by omega
          rw [← hx]; exact hn
      have hhit : j + 1 = h → x.1 = k → x.2.1 = bs → openA A G k bs h = (x.2.2, 0) := fun e1 e2 e3 => by
        have := openA_hit A G k bs h j Hin.out hlt2 e1 (by rw [← hx]; exact e2) (by rw [← hx]; exact e3)
        rw [← hx] at this; exact this
      have Hst := Lib.hid hst
      have Hhit := Lib.hid hhit
      clear hx hxc hst hhit
      by_cases hjh : j + 1 = h
      · have q1 : ((j : Int) + 1 == (h : Int)) = true := by rw [beq_iff_eq]; omega
        by_cases hxk : x.1 = k
        · simp only [decide_eq_true hxk] at heql
          by_cases hbb : x.2.1 = bs
          · rw [decide_eq_true hbb] at hbb0
            rw [hbb0] at hbb1
            have hbb2 := hbb1.symm
            have Hr := Lib.hid (Hhit.out hjh hxk hbb)
            clear hbb1 hbb hxk hjh
            go_wp2_with (refine wpList_loadV rfl 134 _ rfl _ rfl _ hld ?_)
            go_ret2
            rw [Hr.out]
            exact ⟨rfl, (hkw1.transNo hkr).alloc _⟩
          · rw [decide_eq_false hbb] at hbb0
            rw [hbb0] at hbb1
            have hbb2 := hbb1.symm
            have Hn := Lib.hid (Hst.out (fun e => hbb e.2.2))
            clear hbb1 hbb hxk hjh
            go_wp2_with (refine wpList_loadV rfl 134 _ rfl _ rfl _ hld ?_)
            go_roundg (A.length - (j + 1))
            case measure => have := Hq.out; omega
            case rel => exact ⟨j + 1, by omega, rfl, by go_num, Hn.out, hkr.alloc _⟩
        · simp only [decide_eq_false hxk] at heql
          have Hn := Lib.hid (Hst.out (fun e => hxk e.2.1))
          clear hbb1 hbb0 hxk hjh
          go_wp2_with (refine wpList_loadV rfl 134 _ rfl _ rfl _ hld ?_)
          go_roundg (A.length - (j + 1))
          case measure => have := Hq.out; omega
          case rel => exact ⟨j + 1, by omega, rfl, by go_num, Hn.out, hkr.alloc _⟩
      · have q1 : ((j : Int) + 1 == (h : Int)) = false := by rw [beq_eq_false_iff_ne]; omega
        have Hn := Lib.hid (Hst.out (fun e => hjh e.1))
        clear hbb1 hbb0 hjh heql
        go_wp2_with (refine wpList_loadV rfl 134 _ rfl _ rfl _ hld ?_)
        go_roundg (A.length - (j + 1))
        case measure => have := Hq.out; omega
        case rel => exact ⟨j + 1, by omega, rfl, by go_num, Hn.out, hkr.alloc _⟩
    · obtain rfl : A.length = j := by omega
      have hr : openA A G k bs h = ([], 51) := openA_miss A G k bs h Hin.out (fun i hi => Hno.out i hi hi)
      have Hr := Lib.hid hr
      clear hr
      go_wp2_with fail
      go_ret2
      rw [Hr.out]
      exact ⟨rfl, hkw1.transNo hkr⟩

/-- What Seal leaves of the document's vault. -/
def RD (w : World) (b : Nat) (vl vg : Value) (A : List AE) (G : List K3) (w' : World) : Prop :=
  ∃ vl', RV w' b vl' vg A G ∧ (∀ i, vl'.ownBlock = some i → vl.ownBlock = some i ∨ w.heap.size ≤ i) ∧ Keeps (fun i => i = b) w w'
theorem r_seal (b : Nat) (vl vg : Value) (A : List AE) (G : List K3) (k : K3) (bs : ByteArray) (p : List UInt8) (w : World) (hR : RV w b vl vg A G) (hp : p.length ≤ 140737488351232) (hG : G.length ≤ 1099511627776) (hA : A.length ≤ 1099511627776) :
    Calls Tryd.prog 45 #[.pointer (some ⟨b, 0, none⟩), .agg (keyCells k).toArray, .string bs, .string ⟨p.toArray⟩] w fun e w' =>
      e = .returned (.tuple #[.int .u64 ((sealA A G k bs p).2.1 : Int), .int .i64 (sealA A G k bs p).2.2]) ∧ RD w b vl vg (sealA A G k bs p).1 G w' := by
  have same : ∀ w', Keeps No w w' → RD w b vl vg A G w' := fun w' hk => ⟨vl, hR.kept hk, fun i hi => .inl hi, hk.no⟩
  unfold sealA
  by_cases hb : badKey k ∨ 65536 < p.length
  · rw [if_pos hb]
    refine (rseal_bad b k bs p w hb hp).mono ?_
    rintro e w1 ⟨rfl, hk⟩
    exact ⟨rfl, same _ hk⟩
  rw [if_neg hb]
  have hb1 : ¬ badKey k := fun h => hb (.inl h)
  have hb2 : p.length ≤ 65536 := by have : ¬ 65536 < p.length := fun h => hb (.inr h); omega
  by_cases hin : k ∈ G
  · rw [if_pos hin]
    refine (rseal_gone b vl vg A G k bs p w hR hb1 hb2 hG hA hin).mono ?_
    rintro e w1 ⟨rfl, hk⟩
    exact ⟨rfl, same _ hk⟩
  rw [if_neg hin]
  refine (rseal_ok b vl vg A G k bs p w hR hb1 hb2 hG hA hin).mono ?_
  rintro e w1 ⟨rfl, vl', h1, h2, h3⟩
  exact ⟨rfl, vl', h1, fun i hi => .inr (h2 i hi), h3⟩
end Go.Proofs.YthimnkmoeonheaaDoor
