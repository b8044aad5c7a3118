/- The walk of the law SpacePlays. -/
import Derived.Test.YtpceigiofbeihaaLawSpaceRel
import Derived.Deep.DeepCutAuto
import Derived.Deep.CutRange
import Derived.Deep.CutBlock
import Derived.Deep.LoopGhost
namespace Go.Proofs.Ytpceigiofbeihaa
open Go.RowKit
set_option linter.unusedSimpArgs false
set_option linter.unusedVariables false

theorem quiet_left {P : Program} {f : FuncId} {args : Array Value} {w : World} {n : Nat} {v : Value}
    (h : Calls P f args (w.drewN n) fun e w' => e = .returned v ∧ w.drewN n = w') : Calls P f args (w.drewN n) fun e w'' => e = .returned v ∧ ∃ m, w'' = w.drewN m :=
  h.mono fun _ _ ⟨he, hm⟩ => ⟨he, n, hm.symm⟩

theorem takenAt_neg (T : List Bool) (z : Int) (h : z < 0) : takenAt T z = false := by unfold takenAt; rw [decide_eq_false (by omega)]; rfl
theorem takenAt_ge (T : List Bool) (z : Int) (h : (T.length : Int) ≤ z) : takenAt T z = false := by unfold takenAt; rw [List.getElem?_eq_none (by omega)]; simp
theorem takenAt_in (T : List Bool) (z : Int) (h0 : 0 ≤ z) (h : z < T.length) : takenAt T z = !decide (0 ≤ z ∧ T[z.toNat]? = some false) := by
  have hl : z.toNat < T.length := by omega
  unfold takenAt
  rw [List.getElem?_eq_getElem hl]
  cases hb : T[z.toNat] <;> simp [h0]

set_option maxRecDepth 100000 in
set_option maxHeartbeats 4000000 in
theorem spacePlays_any (x y : Int) (a : Option Addr) (m c : Nat) (L : List (I64 × I64)) (w : World) (hx : (Lit.int .i64 x).wf = true) (hy : (Lit.int .i64 y).wf = true) (hs : SlK w 2 a m c (L.map op6V)) (hm : m ≤ 140737488351232) :
    Calls Try.prog 6 #[.int .i64 x, .int .i64 y, .slice a m c] w fun e w' => e = .returned (.bool true) ∧ Keeps No w w' := by
  have hlen : L.length = m := by simpa using hs.len
  have Hlen := Lib.hid hlen
  clear hlen
  obtain ⟨n, hn⟩ : ∃ n : Nat, n = (x % 18446744073709551616 % 30).toNat := ⟨_, rfl⟩
  have hz : (IntKind.u64.wrap x).tmod 30 = (n : Int) := by
    rw [IntKind.wrap_u64, Int.tmod_eq_emod_of_nonneg (by omega)]
    omega
  have hz2 : n < 30 := by omega
  clear hn
  by_cases hbad : n < 1 ∨ y < 0 ∨ (n : Int) < y
  · have hnew := fun w => new_bad (n : Int) y w (by omega)
    go_enter Try.func6, Try.ntmps6
    go_wp2_with fail
    refine (first06_any _).mono ?_
    rintro e w1 ⟨rfl, hk1⟩
    go_wp2_with fail
    refine (hnew _).mono ?_
    rintro e w2 ⟨rfl, rfl⟩
    clear hnew hz
    by_cases h1 : n < 1
    · clear hbad
      go_wp2_with fail
      go_ret
      exact ⟨rfl, hk1⟩
    by_cases h2 : y < 0
    · clear hbad
      go_wp2_with fail
      go_ret
      exact ⟨rfl, hk1⟩
    have h3 : (n : Int) < y := by omega
    clear hbad
    go_wp2_with fail
    go_ret
    exact ⟨rfl, hk1⟩
  obtain ⟨r, rfl⟩ := Int.eq_ofNat_of_zero_le (show 0 ≤ y by omega)
  have hn1 : 1 ≤ n := by omega
  have hn2 : n < 30 := by omega
  have hr1 : r ≤ n := by omega
  have hb1 : decide (n < 1) = false := by simp; omega
  have hb2 : decide ((r : Int) < 0) = false := by simp
  have hb3 : decide (n < r) = false := by simp; omega
  clear hbad hz2 hx hy
  go_enter Try.func6, Try.ntmps6
  go_wp2_with fail
  refine (first06_any _).mono ?_
  rintro e w1 ⟨rfl, hk1⟩
  go_wp2_with fail
  refine (new_ok n r _ hn1 (by omega) hr1).mono ?_
  rintro e w2 ⟨b, tb, rfl, hS2, g1, g2, g3, g4, hk2⟩
  go_wp2_with fail
  refine (xNew_any n r _ hr1 (by omega)).mono ?_
  rintro e w3 ⟨b3, v3, rfl, hX3, g5, g6, hk3⟩
  have hk13 := (hk1.transNo hk2).transNo hk3
  have hS3 := hS2.kept hk3
  have hl3 := newT_length n r hr1
  have z1 := hk1.size
  have z2 := hk2.size
  have z3 := hk3.size
  have hb3 : b3 < w3.heap.size := by obtain ⟨F, h, _⟩ := hX3; exact h.lt
  clear hz hS2
  have g6' : ∀ k, v3.ownBlock = some k → w.heap.size ≤ k ∧ k ≠ b ∧ k ≠ tb := fun k hk => by have := g6 k hk; omega
  have G6 := Lib.hid g6'
  clear g6 g6'
  have hNE : b3 ≠ b ∧ b3 ≠ tb := by omega
  have HNE := Lib.hid hNE
  clear hNE
  go_wp2_with fail
  go_loopg [11, 12, 13, 14, 15, 16, 17, 52] m (fun q _ _ _ _ _ _ _ i wr => ∃ (j : Nat) (T : List Bool) (v : Value), j ≤ m ∧ q = m - j ∧ i = .int .i64 j ∧ T.length = n ∧ SM wr b tb T r ∧ XM wr b3 v r T ∧ (∀ k, v.ownBlock = some k → w.heap.size ≤ k ∧ k ≠ b ∧ k ≠ tb) ∧ Keeps No w wr)
  case atStart => exact ⟨0, _, v3, Nat.zero_le _, rfl, rfl, hl3, hS3, hX3, G6.out, hk13⟩
  case round =>
    clear hS3 hX3 hl3 G6
    obtain ⟨j, T, v, hj, hq, rfl, hTl, hS, hX, hv, hkr⟩ := hrel
    have Hq := Lib.hid hq
    have HTl := Lib.hid hTl
    have Hv := Lib.hid hv
    clear hq hTl hv
    by_cases hlt : j < m
    · have hjL : j < L.length := by rw [Hlen.out]; exact hlt
      have hsr := hs.kept hkr
      have hix := hsr.ix (P := Try.prog) Try.underlying49 (by kernel_rfl) hlt .i64
      obtain ⟨o, ho⟩ : ∃ o, o = L[j] := ⟨_, rfl⟩
      have hb0 : (L.map op6V).getD j [] = op6V o := by rw [ho]; simp [hjL]
      obtain ⟨hld, hlv⟩ := hsr.load (P := Try.prog) (ty := 54) Try.underlying54 rfl (by kernel_rfl) hlt
      rw [hb0, show (op6V o).toArray = #[.int .i64 o.1.1, .int .i64 o.2.1] from rfl] at hld hlv
      clear hb0 ho
      by_cases h100 : j < 100
      · go_upto_block 2 with (refine wpList_loadV rfl 54 _ rfl _ rfl _ hld ?_)
        have hop := heap_alloc_new wr (.cells #[.int .i64 o.1.1, .int .i64 o.2.1] 54)
        have hkA : Keeps No wr (wr.alloc (.cells #[.int .i64 o.1.1, .int .i64 o.2.1] 54)) := (Keeps.refl No wr).alloc _
        have hSA := hS.kept hkA
        have hXA := hX.kept hkA
        have hvA : ∀ k, v.ownBlock = some k → k < wr.heap.size := by obtain ⟨F, h, _⟩ := hX; exact h.vlt
        have htbA : tb < wr.heap.size := SM.tb_lt hS
        have hbA : b < wr.heap.size := SM.b_lt hS
        have hb3A : b3 < wr.heap.size := by obtain ⟨F, h, _⟩ := hX; exact h.lt
        have HvA := Lib.hid hvA
        have hlenT : ∀ T' : List Bool, T'.length = T.length → T'.length = n := fun T' h => h.trans HTl.out
        have HlenT := Lib.hid hlenT
        clear hvA hlenT
        obtain ⟨wA, hwA⟩ : ∃ wA, wA = wr.alloc (.cells #[.int .i64 o.1.1, .int .i64 o.2.1] 54) := ⟨_, rfl⟩
        have hzA : wA.heap.size = wr.heap.size + 1 := by rw [hwA]; simp
        rw [← hwA] at hop hkA hSA hXA ⊢
        clear hwA
        have HzA := Lib.hid hzA
        clear hzA
        go_cut [12, 13, 14, 15, 16] (fun p _ _ _ _ wx => ∃ (T' : List Bool) (v' : Value), p = .pointer (some ⟨wr.heap.size, 0, none⟩) ∧ T'.length = n ∧ wx.heap[wr.heap.size]? = some (.cells #[.int .i64 o.1.1, .int .i64 o.2.1] 54 (0, 0)) ∧ SM wx b tb T' r ∧ XM wx b3 v' r T' ∧ (∀ k, v'.ownBlock = some k → w.heap.size ≤ k ∧ k ≠ b ∧ k ≠ tb) ∧ Keeps No w wx)
        case first =>
          have hb3tb : b3 ≠ tb := HNE.out.2
          have hb3b : b3 ≠ b := HNE.out.1
          cases hq0 : ((IntKind.u64.wrap o.1.1).tmod 3 == 0)
          · cases hq1 : ((IntKind.u64.wrap o.1.1).tmod 3 == 1)
            · go_wp2_with fail
              refine wp_region_held_drew (S := fun wx => wx.cell? ⟨wr.heap.size, 1, none⟩ = some (.int .i64 o.2.1) ∧ wx.heap[wr.heap.size]? = some (.cells #[.int .i64 o.1.1, .int .i64 o.2.1] 54 (0, 0))) (by kernel_rfl) (⟨cell_of_row wA wr.heap.size 1 _ _ (0, 0) hop, hop⟩) (fun hS => ?_)
              refine tk (i := 0) (oi := ⟨some 63, _, _, _, _, _⟩) (v := ?_) rfl (by kernel_rfl) (fun _ _ _ h => h) (by assumption) (by rfl) (fun w hSw => ?_) ?_; rotate_left; (focus (first | (go_simp; done) | (go_simp; with_reducible rfl))); simp only [Act.put, List.setIfInBounds_toArray, List.set_cons_zero, List.set_cons_succ]
              refine tk (i := 1) (oi := ⟨some 64, _, _, _, _, _⟩) (v := ?_) rfl (by kernel_rfl) (fun _ _ _ h => h) (by assumption) (by rfl) (fun w hSw => ?_) ?_; rotate_left; (focus (first | (go_simp; done) | (go_simp; with_reducible rfl))); simp only [Act.put, List.setIfInBounds_toArray, List.set_cons_zero, List.set_cons_succ]
              refine tk (i := 2) (oi := ⟨some 65, _, _, _, _, _⟩) (v := ?_) rfl (by kernel_rfl) (fun _ _ _ h => h) (by assumption) (by rfl) (fun w hSw => ?_) ?_; rotate_left; (focus (first | (go_simp; done) | (go_simp; with_reducible rfl))); simp only [Act.put, List.setIfInBounds_toArray, List.set_cons_zero, List.set_cons_succ]
              refine tk (i := 4) (oi := ⟨some 67, _, _, _, _, _⟩) (v := ?_) rfl (by kernel_rfl) (fun _ _ _ h => h) (by assumption) (by rfl) (fun w hSw => ?_) ?_; rotate_left; (focus (first | (go_simp; done) | (go_simp; with_reducible rfl))); simp only [Act.put, List.setIfInBounds_toArray, List.set_cons_zero, List.set_cons_succ]
              refine tk (i := 5) (oi := ⟨some 68, _, _, _, _, _⟩) (v := ?_) rfl (by kernel_rfl) (fun _ _ _ h => h) (by assumption) (by rfl) (fun w hSw => ?_) ?_; rotate_left; (focus (first | (go_simp; done) | (go_simp; with_reducible rfl))); simp only [Act.put, List.setIfInBounds_toArray, List.set_cons_zero, List.set_cons_succ]
              refine tk (i := 6) (oi := ⟨some 69, _, _, _, _, _⟩) (v := ?_) rfl (by kernel_rfl) (fun _ _ _ h => h) (by assumption) (by rfl) (fun w hSw => ?_) ?_; rotate_left; (focus (first | (go_simp; done) | (go_simp; with_reducible rfl))); simp only [Act.put, List.setIfInBounds_toArray, List.set_cons_zero, List.set_cons_succ]
              refine alone (i := 3) (oi := ⟨some 66, _, _, _, _, _⟩) rfl (by kernel_rfl) (by rfl) (fun K hK => ?_); go_simp
              refine (give_any b tb T r wA.drew (hSA.kept (Keeps.refl No wA).drew) o.2.1).mono ?_
              rintro e w5 ⟨rfl, hS5, hk5⟩
              refine hK.out (fun wx => wx.cell? ⟨wr.heap.size, 1, none⟩ = some (.int .i64 o.2.1) ∧ wx.heap[wr.heap.size]? = some (.cells #[.int .i64 o.1.1, .int .i64 o.2.1] 54 (0, 0))) _ _ (fun _ h => h) (⟨hk5.cell hS.1 (show wr.heap.size ≠ tb by omega), hk5.blk hS.2 (by omega)⟩) ?_
              clear hK K hS
              intro hS
              refine alone (i := 7) (oi := ⟨some 70, _, _, _, _, _⟩) rfl (by kernel_rfl) (by rfl) (fun K hK => ?_); go_simp
              refine (xGive_any b3 v T r o.2.1 w5 ((hXA.kept (Keeps.refl No wA).drew).keep hk5 hb3tb (fun i hi => (Hv.out i hi).2.2))).mono ?_
              rintro e w6 ⟨rfl, v', hX6, hv6, hk6⟩
              refine hK.out (fun wx => wx.cell? ⟨wr.heap.size, 1, none⟩ = some (.int .i64 o.2.1) ∧ wx.heap[wr.heap.size]? = some (.cells #[.int .i64 o.1.1, .int .i64 o.2.1] 54 (0, 0))) _ _ (fun _ h => h) (⟨hk6.cell hS.1 (show wr.heap.size ≠ b3 by omega), hk6.blk hS.2 (by omega)⟩) ?_
              clear hK K hS
              intro hS
              refine tk (i := 8) (oi := ⟨some 71, _, _, _, _, _⟩) (v := ?_) rfl (by kernel_rfl) (fun _ _ _ h => h) (by assumption) (by rfl) (fun w hSw => ?_) ?_; rotate_left; (focus (first | (go_simp; done) | (go_simp; with_reducible rfl))); simp only [Act.put, List.setIfInBounds_toArray, List.set_cons_zero, List.set_cons_succ]
              refine wpAnyH_done (by kernel_rfl) ?_ _
              go_wp2_with fail
              go_meet
              have z5 := hk5.size
              have z6 : wA.drew.heap.size = wr.heap.size + 1 := HzA.out
              exact ⟨_, v', rfl, HlenT.out _ (giveT_length T r _), hS.2, hS5.keep hk6 hb3b.symm hb3tb.symm, hX6, fun k hk => ((hv6 k hk).elim (fun h => Hv.out k h) (fun h => by omega)), ((hkr.transNo hkA).drew.trans hk5 (fun k hk h => by omega)).trans hk6 (fun k hk h => by omega)⟩
            · go_wp2_with fail
              refine wp_region_held_drew (S := fun wx => wx.cell? ⟨wr.heap.size, 1, none⟩ = some (.int .i64 o.2.1) ∧ wx.heap[wr.heap.size]? = some (.cells #[.int .i64 o.1.1, .int .i64 o.2.1] 54 (0, 0))) (by kernel_rfl) (⟨cell_of_row wA wr.heap.size 1 _ _ (0, 0) hop, hop⟩) (fun hS => ?_)
              refine tk (i := 0) (oi := ⟨some 94, _, _, _, _, _⟩) (v := ?_) rfl (by kernel_rfl) (fun _ _ _ h => h) (by assumption) (by rfl) (fun w hSw => ?_) ?_; rotate_left; (focus (first | (go_simp; done) | (go_simp; with_reducible rfl))); simp only [Act.put, List.setIfInBounds_toArray, List.set_cons_zero, List.set_cons_succ]
              refine tk (i := 1) (oi := ⟨some 95, _, _, _, _, _⟩) (v := ?_) rfl (by kernel_rfl) (fun _ _ _ h => h) (by assumption) (by rfl) (fun w hSw => ?_) ?_; rotate_left; (focus (first | (go_simp; done) | (go_simp; with_reducible rfl))); simp only [Act.put, List.setIfInBounds_toArray, List.set_cons_zero, List.set_cons_succ]
              refine tk (i := 2) (oi := ⟨some 96, _, _, _, _, _⟩) (v := ?_) rfl (by kernel_rfl) (fun _ _ _ h => h) (by assumption) (by rfl) (fun w hSw => ?_) ?_; rotate_left; (focus (first | (go_simp; done) | (go_simp; with_reducible rfl))); simp only [Act.put, List.setIfInBounds_toArray, List.set_cons_zero, List.set_cons_succ]
              refine tk (i := 4) (oi := ⟨some 98, _, _, _, _, _⟩) (v := ?_) rfl (by kernel_rfl) (fun _ _ _ h => h) (by assumption) (by rfl) (fun w hSw => ?_) ?_; rotate_left; (focus (first | (go_simp; done) | (go_simp; with_reducible rfl))); simp only [Act.put, List.setIfInBounds_toArray, List.set_cons_zero, List.set_cons_succ]
              refine tk (i := 5) (oi := ⟨some 99, _, _, _, _, _⟩) (v := ?_) rfl (by kernel_rfl) (fun _ _ _ h => h) (by assumption) (by rfl) (fun w hSw => ?_) ?_; rotate_left; (focus (first | (go_simp; done) | (go_simp; with_reducible rfl))); simp only [Act.put, List.setIfInBounds_toArray, List.set_cons_zero, List.set_cons_succ]
              refine tk (i := 6) (oi := ⟨some 100, _, _, _, _, _⟩) (v := ?_) rfl (by kernel_rfl) (fun _ _ _ h => h) (by assumption) (by rfl) (fun w hSw => ?_) ?_; rotate_left; (focus (first | (go_simp; done) | (go_simp; with_reducible rfl))); simp only [Act.put, List.setIfInBounds_toArray, List.set_cons_zero, List.set_cons_succ]
              refine alone (i := 3) (oi := ⟨some 97, _, _, _, _, _⟩) rfl (by kernel_rfl) (by rfl) (fun K hK => ?_); go_simp
              refine (mark_any b tb T r wA.drew (hSA.kept (Keeps.refl No wA).drew) o.2.1).mono ?_
              rintro e w5 ⟨rfl, hS5, hk5⟩
              refine hK.out (fun wx => wx.cell? ⟨wr.heap.size, 1, none⟩ = some (.int .i64 o.2.1) ∧ wx.heap[wr.heap.size]? = some (.cells #[.int .i64 o.1.1, .int .i64 o.2.1] 54 (0, 0))) _ _ (fun _ h => h) (⟨hk5.cell hS.1 (show wr.heap.size ≠ tb by omega), hk5.blk hS.2 (by omega)⟩) ?_
              clear hK K hS
              intro hS
              refine alone (i := 7) (oi := ⟨some 101, _, _, _, _, _⟩) rfl (by kernel_rfl) (by rfl) (fun K hK => ?_); go_simp
              refine (xMark_any b3 v T r o.2.1 w5 ((hXA.kept (Keeps.refl No wA).drew).keep hk5 hb3tb (fun i hi => (Hv.out i hi).2.2))).mono ?_
              rintro e w6 ⟨rfl, v', hX6, hv6, hk6⟩
              refine hK.out (fun wx => wx.cell? ⟨wr.heap.size, 1, none⟩ = some (.int .i64 o.2.1) ∧ wx.heap[wr.heap.size]? = some (.cells #[.int .i64 o.1.1, .int .i64 o.2.1] 54 (0, 0))) _ _ (fun _ h => h) (⟨hk6.cell hS.1 (show wr.heap.size ≠ b3 by omega), hk6.blk hS.2 (by omega)⟩) ?_
              clear hK K hS
              intro hS
              refine tk (i := 8) (oi := ⟨some 102, _, _, _, _, _⟩) (v := ?_) rfl (by kernel_rfl) (fun _ _ _ h => h) (by assumption) (by rfl) (fun w hSw => ?_) ?_; rotate_left; (focus (first | (go_simp; done) | (go_simp; with_reducible rfl))); simp only [Act.put, List.setIfInBounds_toArray, List.set_cons_zero, List.set_cons_succ]
              refine wpAnyH_done (by kernel_rfl) ?_ _
              go_wp2_with fail
              go_meet
              have z5 := hk5.size
              have z6 : wA.drew.heap.size = wr.heap.size + 1 := HzA.out
              exact ⟨_, v', rfl, HlenT.out _ (markT_length T _), hS.2, hS5.keep hk6 hb3b.symm hb3tb.symm, hX6, fun k hk => ((hv6 k hk).elim (fun h => Hv.out k h) (fun h => by omega)), ((hkr.transNo hkA).drew.trans hk5 (fun k hk h => by omega)).trans hk6 (fun k hk h => by omega)⟩
          · obtain ⟨A, hA⟩ : ∃ A, (if T.findIdx (· == false) < T.length then (T.findIdx (· == false) : Int) else 0) = A := ⟨_, rfl⟩
            obtain ⟨B, hB⟩ : ∃ B, decide (T.findIdx (· == false) < T.length) = B := ⟨_, rfl⟩
            have ht := take_any b tb T r wA hSA
            have hx := fun wx hX => xTake_any b3 v T r wx hX
            simp only [hA, hB] at ht hx
            clear hA hB
            go_wp2_with fail
            refine ht.mono ?_
            rintro e w5 ⟨rfl, hS5, hk5⟩
            go_wp2_with fail
            refine (hx _ (hXA.keep hk5 hb3tb (fun i hi => (Hv.out i hi).2.2))).mono ?_
            rintro e w6 ⟨rfl, v', hX6, hv6, hk6⟩
            go_wp2_with fail
            go_meet
            have z5 := hk5.size
            have z6 := HzA.out
            exact ⟨_, v', rfl, HlenT.out _ (takeT_length T), hk6.blk (hk5.blk hop (by omega)) (by omega), hS5.keep hk6 hb3b.symm hb3tb.symm, hX6, fun k hk => ((hv6 k hk).elim (fun h => Hv.out k h) (fun h => by omega)), ((hkr.transNo hkA).trans hk5 (fun k hk h => by omega)).trans hk6 (fun k hk h => by omega)⟩
        case rest =>
          clear hS hX hsr hix hld hlv hop hkA hSA hXA HlenT HvA HzA HTl Hv hkr
          obtain ⟨T', v', rfl, hTl, hop', hS', hX', hv', hkr'⟩ := hcut
          have HTl' := Lib.hid hTl
          have Hv' := Lib.hid hv'
          clear hTl hv'
          go_wp2_with fail
          go_loopg [17] (n + 2) (fun q k wx => ∃ z : Int, -1 ≤ z ∧ z ≤ n + 1 ∧ q = (n + 1 - z).toNat ∧ k = .int .i64 z ∧ wc = wx)
          case atStart => exact ⟨-1, by omega, by omega, by omega, rfl, rfl⟩
          case round =>
            obtain ⟨z, hz1, hz2, hqz, rfl, rfl⟩ := hrel
            have Hqz := Lib.hid hqz
            clear hqz
            by_cases hzn : z ≤ n
            · have htk := taken_any b tb T' r wc hS' z
              by_cases h0 : z < 0
              · rw [takenAt_neg T' z h0] at htk
                go_wp2_with fail
                refine htk.mono ?_
                rintro e w5 ⟨rfl, rfl⟩
                go_wp2_with fail
                go_roundg ((n + 1 - (z + 1)).toNat)
                case measure => have := Hqz.out; omega
                case rel => exact ⟨z + 1, by omega, by omega, rfl, rfl, rfl⟩
              by_cases h1 : (n : Int) ≤ z
              · rw [takenAt_ge T' z (by rw [HTl'.out]; omega)] at htk
                go_wp2_with fail
                refine htk.mono ?_
                rintro e w5 ⟨rfl, rfl⟩
                go_wp2_with fail
                go_roundg ((n + 1 - (z + 1)).toNat)
                case measure => have := Hqz.out; omega
                case rel => exact ⟨z + 1, by omega, by omega, rfl, rfl, rfl⟩
              have his := xIs_any b3 v' T' r z wc hX'
              rw [takenAt_in T' z (by omega) (by rw [HTl'.out]; omega)] at htk
              obtain ⟨B, hB⟩ : ∃ B, decide (0 ≤ z ∧ T'[z.toNat]? = some false) = B := ⟨_, rfl⟩
              rw [hB] at htk his
              clear hB
              go_wp2_with fail
              refine htk.mono ?_
              rintro e w5 ⟨rfl, rfl⟩
              go_wp2_with fail
              refine his.mono ?_
              rintro e w5 ⟨rfl, rfl⟩
              go_wp2_with fail
              go_roundg ((n + 1 - (z + 1)).toNat)
              case measure => have := Hqz.out; omega
              case rel => exact ⟨z + 1, by omega, by omega, rfl, rfl, rfl⟩
            clear Hqz
            go_wp2_with fail
            clear hz1 hz2 hzn
            have hX2 := hX'
            obtain ⟨F, hRM, hrel, hTm⟩ := hX2
            obtain ⟨hR1, hR2, hR3⟩ := hRM
            obtain ⟨a3, c3, rfl, hs3, _⟩ := Sl.ofOwn hR2
            have hcb := cell_of_row wc b3 2 _ _ (0, 0) hR1
            have hcz := cell_of_row wc wr.heap.size 1 _ _ (0, 0) hop'
            have hfree := fun wx (hx : Keeps No wc wx) => free_any b tb T' r wx (hS'.kept hx)
            rw [← hrel.2.2] at hfree
            obtain ⟨z, hzo⟩ : ∃ z, o.2.1 = z := ⟨_, rfl⟩
            have htk := fun wx (hx : Keeps No wc wx) => taken_any b tb T' r wx (hS'.kept hx) z
            have his := fun wx (hx : Keeps No wc wx) => xIs_any b3 _ T' r z wx (hX'.kept hx)
            have HX' := hX'
            clear hrel hTm hR1 hR2 hR3 hs3
            simp only [show (#[Value.int .i64 o.1.1, Value.int .i64 o.2.1][1]? : Option Value) = some (.int .i64 o.2.1) from rfl] at hcz
            simp only [show ∀ p q : Value, (#[p, q, Value.slice a3 F.length c3][2]? : Option Value) = some (.slice a3 F.length c3) from fun _ _ => rfl] at hcb
            rw [hzo] at hcz
            clear hzo hop'
            by_cases h0 : z < 0
            · have e1 : decide (0 ≤ z) = false := by simp; omega
              rw [takenAt_neg T' z h0] at htk
              refine wp_region_held_drew (S := fun wx => wx.cell? ⟨wr.heap.size, 1, none⟩ = some (.int .i64 z) ∧ wx.cell? ⟨b3, 2, none⟩ = some (.slice a3 F.length c3) ∧ Keeps No wc wx) (by kernel_rfl) (⟨hcz, hcb, (Keeps.refl No wc).drew⟩) (fun hS => ?_)
              refine tk (i := 0) (oi := ⟨some 125, _, _, _, _, _⟩) (v := ?_) rfl (by kernel_rfl) (fun _ _ _ h => h) (by assumption) (by rfl) (fun w hSw => ?_) ?_; rotate_left; (focus (first | (go_simp; done) | (go_simp; with_reducible rfl))); simp only [Act.put, List.setIfInBounds_toArray, List.set_cons_zero, List.set_cons_succ]
              refine tk (i := 2) (oi := ⟨some 127, _, _, _, _, _⟩) (v := ?_) rfl (by kernel_rfl) (fun _ _ _ h => h) (by assumption) (by rfl) (fun w hSw => ?_) ?_; rotate_left; (focus (first | (go_simp; done) | (go_simp; with_reducible rfl))); simp only [Act.put, List.setIfInBounds_toArray, List.set_cons_zero, List.set_cons_succ]
              refine tk (i := 3) (oi := ⟨some 128, _, _, _, _, _⟩) (v := ?_) rfl (by kernel_rfl) (fun _ _ _ h => h) (by assumption) (by rfl) (fun w hSw => ?_) ?_; rotate_left; (focus (first | (go_simp; done) | (go_simp; with_reducible rfl))); simp only [Act.put, List.setIfInBounds_toArray, List.set_cons_zero, List.set_cons_succ]
              refine tk (i := 4) (oi := ⟨some 129, _, _, _, _, _⟩) (v := ?_) rfl (by kernel_rfl) (fun _ _ _ h => h) (by assumption) (by rfl) (fun w hSw => ?_) ?_; rotate_left; (focus (first | (go_simp; done) | (go_simp; with_reducible rfl))); simp only [Act.put, List.setIfInBounds_toArray, List.set_cons_zero, List.set_cons_succ]
              refine tk (i := 5) (oi := ⟨some 130, _, _, _, _, _⟩) (v := ?_) rfl (by kernel_rfl) (fun _ _ _ h => h) (by assumption) (by rfl) (fun w hSw => ?_) ?_; rotate_left; (focus (first | (go_simp; done) | (go_simp; with_reducible rfl))); simp only [Act.put, List.setIfInBounds_toArray, List.set_cons_zero, List.set_cons_succ]
              refine tk (i := 6) (oi := ⟨some 131, _, _, _, _, _⟩) (v := ?_) rfl (by kernel_rfl) (fun _ _ _ h => h) (by assumption) (by rfl) (fun w hSw => ?_) ?_; rotate_left; (focus (first | (go_simp; done) | (go_simp; with_reducible rfl))); simp only [Act.put, List.setIfInBounds_toArray, List.set_cons_zero, List.set_cons_succ]
              refine alone (i := 1) (oi := ⟨some 126, _, _, _, _, _⟩) rfl (by kernel_rfl) (by rfl) (fun K hK => ?_); go_simp
              refine (hfree _ hS.2.2).mono ?_
              rintro e w5 ⟨rfl, rfl⟩
              refine hK.out (fun wx => wx.cell? ⟨wr.heap.size, 1, none⟩ = some (.int .i64 z) ∧ wx.cell? ⟨b3, 2, none⟩ = some (.slice a3 F.length c3) ∧ Keeps No wc wx) _ _ (fun _ h => h) (hS) ?_
              clear hK K hS
              intro hS
              refine tk (i := 7) (oi := ⟨some 132, _, _, _, _, _⟩) (v := ?_) rfl (by kernel_rfl) (fun _ _ _ h => h) (by assumption) (by rfl) (fun w hSw => ?_) ?_; rotate_left; (focus (first | (go_simp; done) | (go_simp; with_reducible rfl))); simp only [Act.put, List.setIfInBounds_toArray, List.set_cons_zero, List.set_cons_succ]
              refine tk (i := 8) (oi := ⟨some 133, _, _, _, _, _⟩) (v := ?_) rfl (by kernel_rfl) (fun _ _ _ h => h) (by assumption) (by rfl) (fun w hSw => ?_) ?_; rotate_left; (focus (first | (go_simp; done) | (go_simp; with_reducible rfl))); simp only [Act.put, List.setIfInBounds_toArray, List.set_cons_zero, List.set_cons_succ]
              refine tk (i := 9) (oi := ⟨some 134, _, _, _, _, _⟩) (v := ?_) rfl (by kernel_rfl) (fun _ _ _ h => h) (by assumption) (by rfl) (fun w hSw => ?_) ?_; rotate_left; (focus (first | (go_simp; done) | (go_simp; with_reducible rfl))); simp only [Act.put, List.setIfInBounds_toArray, List.set_cons_zero, List.set_cons_succ]
              refine tk (i := 10) (oi := ⟨some 135, _, _, _, _, _⟩) (v := ?_) rfl (by kernel_rfl) (fun _ _ _ h => h) (by assumption) (by rfl) (fun w hSw => ?_) ?_; rotate_left; (focus (first | (go_simp; done) | (go_simp; with_reducible rfl))); simp only [Act.put, List.setIfInBounds_toArray, List.set_cons_zero, List.set_cons_succ]
              refine tk (i := 11) (oi := ⟨some 136, _, _, _, _, _⟩) (v := ?_) rfl (by kernel_rfl) (fun _ _ _ h => h) (by assumption) (by rfl) (fun w hSw => ?_) ?_; rotate_left; (focus (first | (go_simp; done) | (go_simp; with_reducible rfl))); simp only [Act.put, List.setIfInBounds_toArray, List.set_cons_zero, List.set_cons_succ]
              refine tk (i := 13) (oi := ⟨some 138, _, _, _, _, _⟩) (v := ?_) rfl (by kernel_rfl) (fun _ _ _ h => h) (by assumption) (by rfl) (fun w hSw => ?_) ?_; rotate_left; (focus (first | (go_simp; done) | (go_simp; with_reducible rfl))); simp only [Act.put, List.setIfInBounds_toArray, List.set_cons_zero, List.set_cons_succ]
              refine tk (i := 14) (oi := ⟨some 139, _, _, _, _, _⟩) (v := ?_) rfl (by kernel_rfl) (fun _ _ _ h => h) (by assumption) (by rfl) (fun w hSw => ?_) ?_; rotate_left; (focus (first | (go_simp; done) | (go_simp; with_reducible rfl))); simp only [Act.put, List.setIfInBounds_toArray, List.set_cons_zero, List.set_cons_succ]
              refine tk (i := 15) (oi := ⟨some 140, _, _, _, _, _⟩) (v := ?_) rfl (by kernel_rfl) (fun _ _ _ h => h) (by assumption) (by rfl) (fun w hSw => ?_) ?_; rotate_left; (focus (first | (go_simp; done) | (go_simp; with_reducible rfl))); simp only [Act.put, List.setIfInBounds_toArray, List.set_cons_zero, List.set_cons_succ]
              refine alone (i := 12) (oi := ⟨some 137, _, _, _, _, _⟩) rfl (by kernel_rfl) (by rfl) (fun K hK => ?_); go_simp
              refine (htk _ hS.2.2).mono ?_
              rintro e w5 ⟨rfl, rfl⟩
              refine hK.out (fun wx => wx.cell? ⟨wr.heap.size, 1, none⟩ = some (.int .i64 z) ∧ wx.cell? ⟨b3, 2, none⟩ = some (.slice a3 F.length c3) ∧ Keeps No wc wx) _ _ (fun _ h => h) (hS) ?_
              clear hK K hS
              intro hS
              refine tk (i := 16) (oi := ⟨some 141, _, _, _, _, _⟩) (v := ?_) rfl (by kernel_rfl) (fun _ _ _ h => h) (by assumption) (by rfl) (fun w hSw => ?_) ?_; rotate_left; (focus (first | (go_simp; done) | (go_simp; with_reducible rfl))); simp only [Act.put, List.setIfInBounds_toArray, List.set_cons_zero, List.set_cons_succ]
              refine tkNot (i := 17) (oi := ⟨some 142, _, _, _, _, _⟩) rfl (by kernel_rfl) (fun _ _ _ h => h) (by assumption) (by rfl) ?_; simp only [Act.put, List.setIfInBounds_toArray, List.set_cons_zero, List.set_cons_succ]
              refine tkNot (i := 18) (oi := ⟨some 143, _, _, _, _, _⟩) rfl (by kernel_rfl) (fun _ _ _ h => h) (by assumption) (by rfl) ?_; simp only [Act.put, List.setIfInBounds_toArray, List.set_cons_zero, List.set_cons_succ]
              refine tkNot (i := 19) (oi := ⟨some 144, _, _, _, _, _⟩) rfl (by kernel_rfl) (fun _ _ _ h => h) (by assumption) (by rfl) ?_; simp only [Act.put, List.setIfInBounds_toArray, List.set_cons_zero, List.set_cons_succ]
              refine tkNot (i := 20) (oi := ⟨some 145, _, _, _, _, _⟩) rfl (by kernel_rfl) (fun _ _ _ h => h) (by assumption) (by rfl) ?_; simp only [Act.put, List.setIfInBounds_toArray, List.set_cons_zero, List.set_cons_succ]
              refine tk (i := 21) (oi := ⟨some 146, _, _, _, _, _⟩) (v := ?_) rfl (by kernel_rfl) (fun _ _ _ h => h) (by assumption) (by rfl) (fun w hSw => ?_) ?_; rotate_left; (focus (first | (go_simp; done) | (go_simp; with_reducible rfl))); simp only [Act.put, List.setIfInBounds_toArray, List.set_cons_zero, List.set_cons_succ]
              refine tk (i := 22) (oi := ⟨some 147, _, _, _, _, _⟩) (v := ?_) rfl (by kernel_rfl) (fun _ _ _ h => h) (by assumption) (by rfl) (fun w hSw => ?_) ?_; rotate_left; (focus (first | (go_simp; done) | (go_simp; with_reducible rfl))); simp only [Act.put, List.setIfInBounds_toArray, List.set_cons_zero, List.set_cons_succ]
              refine tkNot (i := 23) (oi := ⟨some 148, _, _, _, _, _⟩) rfl (by kernel_rfl) (fun _ _ _ h => h) (by assumption) (by rfl) ?_; simp only [Act.put, List.setIfInBounds_toArray, List.set_cons_zero, List.set_cons_succ]
              refine tkNot (i := 24) (oi := ⟨some 149, _, _, _, _, _⟩) rfl (by kernel_rfl) (fun _ _ _ h => h) (by assumption) (by rfl) ?_; simp only [Act.put, List.setIfInBounds_toArray, List.set_cons_zero, List.set_cons_succ]
              refine tkNot (i := 25) (oi := ⟨some 150, _, _, _, _, _⟩) rfl (by kernel_rfl) (fun _ _ _ h => h) (by assumption) (by rfl) ?_; simp only [Act.put, List.setIfInBounds_toArray, List.set_cons_zero, List.set_cons_succ]
              refine tkNot (i := 26) (oi := ⟨some 151, _, _, _, _, _⟩) rfl (by kernel_rfl) (fun _ _ _ h => h) (by assumption) (by rfl) ?_; simp only [Act.put, List.setIfInBounds_toArray, List.set_cons_zero, List.set_cons_succ]
              refine tkNot (i := 27) (oi := ⟨some 152, _, _, _, _, _⟩) rfl (by kernel_rfl) (fun _ _ _ h => h) (by assumption) (by rfl) ?_; simp only [Act.put, List.setIfInBounds_toArray, List.set_cons_zero, List.set_cons_succ]
              refine tk (i := 28) (oi := ⟨some 153, _, _, _, _, _⟩) (v := ?_) rfl (by kernel_rfl) (fun _ _ _ h => h) (by assumption) (by rfl) (fun w hSw => ?_) ?_; rotate_left; (focus (first | (go_simp; done) | (go_simp; with_reducible rfl))); simp only [Act.put, List.setIfInBounds_toArray, List.set_cons_zero, List.set_cons_succ]
              refine tk (i := 29) (oi := ⟨some 154, _, _, _, _, _⟩) (v := ?_) rfl (by kernel_rfl) (fun _ _ _ h => h) (by assumption) (by rfl) (fun w hSw => ?_) ?_; rotate_left; (focus (first | (go_simp; done) | (go_simp; with_reducible rfl))); simp only [Act.put, List.setIfInBounds_toArray, List.set_cons_zero, List.set_cons_succ]
              refine tk (i := 30) (oi := ⟨some 155, _, _, _, _, _⟩) (v := ?_) rfl (by kernel_rfl) (fun _ _ _ h => h) (by assumption) (by rfl) (fun w hSw => ?_) ?_; rotate_left; (focus (first | (go_simp; done) | (go_simp; with_reducible rfl))); simp only [Act.put, List.setIfInBounds_toArray, List.set_cons_zero, List.set_cons_succ]
              refine wpAnyH_done (by kernel_rfl) ?_ _
              go_wp2_with fail
              go_roundg (m - (j + 1))
              case measure => have := Hq.out; omega
              case rel => exact ⟨j + 1, T', _, by omega, rfl, by go_num, HTl'.out, hS'.kept (Keeps.refl No wc).drew, hX'.kept (Keeps.refl No wc).drew, Hv'.out, hkr'.drew⟩
            have e1 : decide (0 ≤ z) = true := by simp; omega
            by_cases h1 : (n : Int) ≤ z
            · have e2 : decide (z < n) = false := by simp; omega
              rw [takenAt_ge T' z (by rw [HTl'.out]; omega)] at htk
              refine wp_region_held_drew (S := fun wx => wx.cell? ⟨wr.heap.size, 1, none⟩ = some (.int .i64 z) ∧ wx.cell? ⟨b3, 2, none⟩ = some (.slice a3 F.length c3) ∧ Keeps No wc wx) (by kernel_rfl) (⟨hcz, hcb, (Keeps.refl No wc).drew⟩) (fun hS => ?_)
              refine tk (i := 0) (oi := ⟨some 125, _, _, _, _, _⟩) (v := ?_) rfl (by kernel_rfl) (fun _ _ _ h => h) (by assumption) (by rfl) (fun w hSw => ?_) ?_; rotate_left; (focus (first | (go_simp; done) | (go_simp; with_reducible rfl))); simp only [Act.put, List.setIfInBounds_toArray, List.set_cons_zero, List.set_cons_succ]
              refine tk (i := 2) (oi := ⟨some 127, _, _, _, _, _⟩) (v := ?_) rfl (by kernel_rfl) (fun _ _ _ h => h) (by assumption) (by rfl) (fun w hSw => ?_) ?_; rotate_left; (focus (first | (go_simp; done) | (go_simp; with_reducible rfl))); simp only [Act.put, List.setIfInBounds_toArray, List.set_cons_zero, List.set_cons_succ]
              refine tk (i := 3) (oi := ⟨some 128, _, _, _, _, _⟩) (v := ?_) rfl (by kernel_rfl) (fun _ _ _ h => h) (by assumption) (by rfl) (fun w hSw => ?_) ?_; rotate_left; (focus (first | (go_simp; done) | (go_simp; with_reducible rfl))); simp only [Act.put, List.setIfInBounds_toArray, List.set_cons_zero, List.set_cons_succ]
              refine tk (i := 4) (oi := ⟨some 129, _, _, _, _, _⟩) (v := ?_) rfl (by kernel_rfl) (fun _ _ _ h => h) (by assumption) (by rfl) (fun w hSw => ?_) ?_; rotate_left; (focus (first | (go_simp; done) | (go_simp; with_reducible rfl))); simp only [Act.put, List.setIfInBounds_toArray, List.set_cons_zero, List.set_cons_succ]
              refine tk (i := 5) (oi := ⟨some 130, _, _, _, _, _⟩) (v := ?_) rfl (by kernel_rfl) (fun _ _ _ h => h) (by assumption) (by rfl) (fun w hSw => ?_) ?_; rotate_left; (focus (first | (go_simp; done) | (go_simp; with_reducible rfl))); simp only [Act.put, List.setIfInBounds_toArray, List.set_cons_zero, List.set_cons_succ]
              refine tk (i := 6) (oi := ⟨some 131, _, _, _, _, _⟩) (v := ?_) rfl (by kernel_rfl) (fun _ _ _ h => h) (by assumption) (by rfl) (fun w hSw => ?_) ?_; rotate_left; (focus (first | (go_simp; done) | (go_simp; with_reducible rfl))); simp only [Act.put, List.setIfInBounds_toArray, List.set_cons_zero, List.set_cons_succ]
              refine alone (i := 1) (oi := ⟨some 126, _, _, _, _, _⟩) rfl (by kernel_rfl) (by rfl) (fun K hK => ?_); go_simp
              refine (hfree _ hS.2.2).mono ?_
              rintro e w5 ⟨rfl, rfl⟩
              refine hK.out (fun wx => wx.cell? ⟨wr.heap.size, 1, none⟩ = some (.int .i64 z) ∧ wx.cell? ⟨b3, 2, none⟩ = some (.slice a3 F.length c3) ∧ Keeps No wc wx) _ _ (fun _ h => h) (hS) ?_
              clear hK K hS
              intro hS
              refine tk (i := 7) (oi := ⟨some 132, _, _, _, _, _⟩) (v := ?_) rfl (by kernel_rfl) (fun _ _ _ h => h) (by assumption) (by rfl) (fun w hSw => ?_) ?_; rotate_left; (focus (first | (go_simp; done) | (go_simp; with_reducible rfl))); simp only [Act.put, List.setIfInBounds_toArray, List.set_cons_zero, List.set_cons_succ]
              refine tk (i := 8) (oi := ⟨some 133, _, _, _, _, _⟩) (v := ?_) rfl (by kernel_rfl) (fun _ _ _ h => h) (by assumption) (by rfl) (fun w hSw => ?_) ?_; rotate_left; (focus (first | (go_simp; done) | (go_simp; with_reducible rfl))); simp only [Act.put, List.setIfInBounds_toArray, List.set_cons_zero, List.set_cons_succ]
              refine tk (i := 9) (oi := ⟨some 134, _, _, _, _, _⟩) (v := ?_) rfl (by kernel_rfl) (fun _ _ _ h => h) (by assumption) (by rfl) (fun w hSw => ?_) ?_; rotate_left; (focus (first | (go_simp; done) | (go_simp; with_reducible rfl))); simp only [Act.put, List.setIfInBounds_toArray, List.set_cons_zero, List.set_cons_succ]
              refine tk (i := 10) (oi := ⟨some 135, _, _, _, _, _⟩) (v := ?_) rfl (by kernel_rfl) (fun _ _ _ h => h) (by assumption) (by rfl) (fun w hSw => ?_) ?_; rotate_left; (focus (first | (go_simp; done) | (go_simp; with_reducible rfl))); simp only [Act.put, List.setIfInBounds_toArray, List.set_cons_zero, List.set_cons_succ]
              refine tk (i := 11) (oi := ⟨some 136, _, _, _, _, _⟩) (v := ?_) rfl (by kernel_rfl) (fun _ _ _ h => h) (by assumption) (by rfl) (fun w hSw => ?_) ?_; rotate_left; (focus (first | (go_simp; done) | (go_simp; with_reducible rfl))); simp only [Act.put, List.setIfInBounds_toArray, List.set_cons_zero, List.set_cons_succ]
              refine tk (i := 13) (oi := ⟨some 138, _, _, _, _, _⟩) (v := ?_) rfl (by kernel_rfl) (fun _ _ _ h => h) (by assumption) (by rfl) (fun w hSw => ?_) ?_; rotate_left; (focus (first | (go_simp; done) | (go_simp; with_reducible rfl))); simp only [Act.put, List.setIfInBounds_toArray, List.set_cons_zero, List.set_cons_succ]
              refine tk (i := 14) (oi := ⟨some 139, _, _, _, _, _⟩) (v := ?_) rfl (by kernel_rfl) (fun _ _ _ h => h) (by assumption) (by rfl) (fun w hSw => ?_) ?_; rotate_left; (focus (first | (go_simp; done) | (go_simp; with_reducible rfl))); simp only [Act.put, List.setIfInBounds_toArray, List.set_cons_zero, List.set_cons_succ]
              refine tk (i := 15) (oi := ⟨some 140, _, _, _, _, _⟩) (v := ?_) rfl (by kernel_rfl) (fun _ _ _ h => h) (by assumption) (by rfl) (fun w hSw => ?_) ?_; rotate_left; (focus (first | (go_simp; done) | (go_simp; with_reducible rfl))); simp only [Act.put, List.setIfInBounds_toArray, List.set_cons_zero, List.set_cons_succ]
              refine alone (i := 12) (oi := ⟨some 137, _, _, _, _, _⟩) rfl (by kernel_rfl) (by rfl) (fun K hK => ?_); go_simp
              refine (htk _ hS.2.2).mono ?_
              rintro e w5 ⟨rfl, rfl⟩
              refine hK.out (fun wx => wx.cell? ⟨wr.heap.size, 1, none⟩ = some (.int .i64 z) ∧ wx.cell? ⟨b3, 2, none⟩ = some (.slice a3 F.length c3) ∧ Keeps No wc wx) _ _ (fun _ h => h) (hS) ?_
              clear hK K hS
              intro hS
              refine tk (i := 16) (oi := ⟨some 141, _, _, _, _, _⟩) (v := ?_) rfl (by kernel_rfl) (fun _ _ _ h => h) (by assumption) (by rfl) (fun w hSw => ?_) ?_; rotate_left; (focus (first | (go_simp; done) | (go_simp; with_reducible rfl))); simp only [Act.put, List.setIfInBounds_toArray, List.set_cons_zero, List.set_cons_succ]
              refine tk (i := 17) (oi := ⟨some 142, _, _, _, _, _⟩) (v := ?_) rfl (by kernel_rfl) (fun _ _ _ h => h) (by assumption) (by rfl) (fun w hSw => ?_) ?_; rotate_left; (focus (first | (go_simp; done) | (go_simp; with_reducible rfl))); simp only [Act.put, List.setIfInBounds_toArray, List.set_cons_zero, List.set_cons_succ]
              refine tk (i := 18) (oi := ⟨some 143, _, _, _, _, _⟩) (v := ?_) rfl (by kernel_rfl) (fun _ _ _ h => h) (by assumption) (by rfl) (fun w hSw => ?_) ?_; rotate_left; (focus (first | (go_simp; done) | (go_simp; with_reducible rfl))); simp only [Act.put, List.setIfInBounds_toArray, List.set_cons_zero, List.set_cons_succ]
              refine tk (i := 19) (oi := ⟨some 144, _, _, _, _, _⟩) (v := ?_) rfl (by kernel_rfl) (fun _ _ _ h => h) (by assumption) (by rfl) (fun w hSw => ?_) ?_; rotate_left; (focus (first | (go_simp; done) | (go_simp; with_reducible rfl))); simp only [Act.put, List.setIfInBounds_toArray, List.set_cons_zero, List.set_cons_succ]
              refine tk (i := 20) (oi := ⟨some 145, _, _, _, _, _⟩) (v := ?_) rfl (by kernel_rfl) (fun _ _ _ h => h) (by assumption) (by rfl) (fun w hSw => ?_) ?_; rotate_left; (focus (first | (go_simp; done) | (go_simp; with_reducible rfl))); simp only [Act.put, List.setIfInBounds_toArray, List.set_cons_zero, List.set_cons_succ]
              refine tk (i := 21) (oi := ⟨some 146, _, _, _, _, _⟩) (v := ?_) rfl (by kernel_rfl) (fun _ _ _ h => h) (by assumption) (by rfl) (fun w hSw => ?_) ?_; rotate_left; (focus (first | (go_simp; done) | (go_simp; with_reducible rfl))); simp only [Act.put, List.setIfInBounds_toArray, List.set_cons_zero, List.set_cons_succ]
              refine tk (i := 22) (oi := ⟨some 147, _, _, _, _, _⟩) (v := ?_) rfl (by kernel_rfl) (fun _ _ _ h => h) (by assumption) (by rfl) (fun w hSw => ?_) ?_; rotate_left; (focus (first | (go_simp; done) | (go_simp; with_reducible rfl))); simp only [Act.put, List.setIfInBounds_toArray, List.set_cons_zero, List.set_cons_succ]
              refine tkNot (i := 23) (oi := ⟨some 148, _, _, _, _, _⟩) rfl (by kernel_rfl) (fun _ _ _ h => h) (by assumption) (by rfl) ?_; simp only [Act.put, List.setIfInBounds_toArray, List.set_cons_zero, List.set_cons_succ]
              refine tkNot (i := 24) (oi := ⟨some 149, _, _, _, _, _⟩) rfl (by kernel_rfl) (fun _ _ _ h => h) (by assumption) (by rfl) ?_; simp only [Act.put, List.setIfInBounds_toArray, List.set_cons_zero, List.set_cons_succ]
              refine tkNot (i := 25) (oi := ⟨some 150, _, _, _, _, _⟩) rfl (by kernel_rfl) (fun _ _ _ h => h) (by assumption) (by rfl) ?_; simp only [Act.put, List.setIfInBounds_toArray, List.set_cons_zero, List.set_cons_succ]
              refine tkNot (i := 26) (oi := ⟨some 151, _, _, _, _, _⟩) rfl (by kernel_rfl) (fun _ _ _ h => h) (by assumption) (by rfl) ?_; simp only [Act.put, List.setIfInBounds_toArray, List.set_cons_zero, List.set_cons_succ]
              refine tkNot (i := 27) (oi := ⟨some 152, _, _, _, _, _⟩) rfl (by kernel_rfl) (fun _ _ _ h => h) (by assumption) (by rfl) ?_; simp only [Act.put, List.setIfInBounds_toArray, List.set_cons_zero, List.set_cons_succ]
              refine tk (i := 28) (oi := ⟨some 153, _, _, _, _, _⟩) (v := ?_) rfl (by kernel_rfl) (fun _ _ _ h => h) (by assumption) (by rfl) (fun w hSw => ?_) ?_; rotate_left; (focus (first | (go_simp; done) | (go_simp; with_reducible rfl))); simp only [Act.put, List.setIfInBounds_toArray, List.set_cons_zero, List.set_cons_succ]
              refine tk (i := 29) (oi := ⟨some 154, _, _, _, _, _⟩) (v := ?_) rfl (by kernel_rfl) (fun _ _ _ h => h) (by assumption) (by rfl) (fun w hSw => ?_) ?_; rotate_left; (focus (first | (go_simp; done) | (go_simp; with_reducible rfl))); simp only [Act.put, List.setIfInBounds_toArray, List.set_cons_zero, List.set_cons_succ]
              refine tk (i := 30) (oi := ⟨some 155, _, _, _, _, _⟩) (v := ?_) rfl (by kernel_rfl) (fun _ _ _ h => h) (by assumption) (by rfl) (fun w hSw => ?_) ?_; rotate_left; (focus (first | (go_simp; done) | (go_simp; with_reducible rfl))); simp only [Act.put, List.setIfInBounds_toArray, List.set_cons_zero, List.set_cons_succ]
              refine wpAnyH_done (by kernel_rfl) ?_ _
              go_wp2_with fail
              go_roundg (m - (j + 1))
              case measure => have := Hq.out; omega
              case rel => exact ⟨j + 1, T', _, by omega, rfl, by go_num, HTl'.out, hS'.kept (Keeps.refl No wc).drew, hX'.kept (Keeps.refl No wc).drew, Hv'.out, hkr'.drew⟩
            have e2 : decide (z < n) = true := by simp; omega
            rw [takenAt_in T' z (by omega) (by rw [HTl'.out]; omega)] at htk
            obtain ⟨B, hB⟩ : ∃ B, decide (0 ≤ z ∧ T'[z.toNat]? = some false) = B := ⟨_, rfl⟩
            rw [hB] at htk his
            clear hB
            refine wp_region_held_drew (S := fun wx => wx.cell? ⟨wr.heap.size, 1, none⟩ = some (.int .i64 z) ∧ wx.cell? ⟨b3, 2, none⟩ = some (.slice a3 F.length c3) ∧ Keeps No wc wx) (by kernel_rfl) (⟨hcz, hcb, (Keeps.refl No wc).drew⟩) (fun hS => ?_)
            refine tk (i := 0) (oi := ⟨some 125, _, _, _, _, _⟩) (v := ?_) rfl (by kernel_rfl) (fun _ _ _ h => h) (by assumption) (by rfl) (fun w hSw => ?_) ?_; rotate_left; (focus (first | (go_simp; done) | (go_simp; with_reducible rfl))); simp only [Act.put, List.setIfInBounds_toArray, List.set_cons_zero, List.set_cons_succ]
            refine tk (i := 2) (oi := ⟨some 127, _, _, _, _, _⟩) (v := ?_) rfl (by kernel_rfl) (fun _ _ _ h => h) (by assumption) (by rfl) (fun w hSw => ?_) ?_; rotate_left; (focus (first | (go_simp; done) | (go_simp; with_reducible rfl))); simp only [Act.put, List.setIfInBounds_toArray, List.set_cons_zero, List.set_cons_succ]
            refine tk (i := 3) (oi := ⟨some 128, _, _, _, _, _⟩) (v := ?_) rfl (by kernel_rfl) (fun _ _ _ h => h) (by assumption) (by rfl) (fun w hSw => ?_) ?_; rotate_left; (focus (first | (go_simp; done) | (go_simp; with_reducible rfl))); simp only [Act.put, List.setIfInBounds_toArray, List.set_cons_zero, List.set_cons_succ]
            refine tk (i := 4) (oi := ⟨some 129, _, _, _, _, _⟩) (v := ?_) rfl (by kernel_rfl) (fun _ _ _ h => h) (by assumption) (by rfl) (fun w hSw => ?_) ?_; rotate_left; (focus (first | (go_simp; done) | (go_simp; with_reducible rfl))); simp only [Act.put, List.setIfInBounds_toArray, List.set_cons_zero, List.set_cons_succ]
            refine tk (i := 5) (oi := ⟨some 130, _, _, _, _, _⟩) (v := ?_) rfl (by kernel_rfl) (fun _ _ _ h => h) (by assumption) (by rfl) (fun w hSw => ?_) ?_; rotate_left; (focus (first | (go_simp; done) | (go_simp; with_reducible rfl))); simp only [Act.put, List.setIfInBounds_toArray, List.set_cons_zero, List.set_cons_succ]
            refine tk (i := 6) (oi := ⟨some 131, _, _, _, _, _⟩) (v := ?_) rfl (by kernel_rfl) (fun _ _ _ h => h) (by assumption) (by rfl) (fun w hSw => ?_) ?_; rotate_left; (focus (first | (go_simp; done) | (go_simp; with_reducible rfl))); simp only [Act.put, List.setIfInBounds_toArray, List.set_cons_zero, List.set_cons_succ]
            refine alone (i := 1) (oi := ⟨some 126, _, _, _, _, _⟩) rfl (by kernel_rfl) (by rfl) (fun K hK => ?_); go_simp
            refine (hfree _ hS.2.2).mono ?_
            rintro e w5 ⟨rfl, rfl⟩
            refine hK.out (fun wx => wx.cell? ⟨wr.heap.size, 1, none⟩ = some (.int .i64 z) ∧ wx.cell? ⟨b3, 2, none⟩ = some (.slice a3 F.length c3) ∧ Keeps No wc wx) _ _ (fun _ h => h) (hS) ?_
            clear hK K hS
            intro hS
            refine tk (i := 7) (oi := ⟨some 132, _, _, _, _, _⟩) (v := ?_) rfl (by kernel_rfl) (fun _ _ _ h => h) (by assumption) (by rfl) (fun w hSw => ?_) ?_; rotate_left; (focus (first | (go_simp; done) | (go_simp; with_reducible rfl))); simp only [Act.put, List.setIfInBounds_toArray, List.set_cons_zero, List.set_cons_succ]
            refine tk (i := 8) (oi := ⟨some 133, _, _, _, _, _⟩) (v := ?_) rfl (by kernel_rfl) (fun _ _ _ h => h) (by assumption) (by rfl) (fun w hSw => ?_) ?_; rotate_left; (focus (first | (go_simp; done) | (go_simp; with_reducible rfl))); simp only [Act.put, List.setIfInBounds_toArray, List.set_cons_zero, List.set_cons_succ]
            refine tk (i := 9) (oi := ⟨some 134, _, _, _, _, _⟩) (v := ?_) rfl (by kernel_rfl) (fun _ _ _ h => h) (by assumption) (by rfl) (fun w hSw => ?_) ?_; rotate_left; (focus (first | (go_simp; done) | (go_simp; with_reducible rfl))); simp only [Act.put, List.setIfInBounds_toArray, List.set_cons_zero, List.set_cons_succ]
            refine tk (i := 10) (oi := ⟨some 135, _, _, _, _, _⟩) (v := ?_) rfl (by kernel_rfl) (fun _ _ _ h => h) (by assumption) (by rfl) (fun w hSw => ?_) ?_; rotate_left; (focus (first | (go_simp; done) | (go_simp; with_reducible rfl))); simp only [Act.put, List.setIfInBounds_toArray, List.set_cons_zero, List.set_cons_succ]
            refine tk (i := 11) (oi := ⟨some 136, _, _, _, _, _⟩) (v := ?_) rfl (by kernel_rfl) (fun _ _ _ h => h) (by assumption) (by rfl) (fun w hSw => ?_) ?_; rotate_left; (focus (first | (go_simp; done) | (go_simp; with_reducible rfl))); simp only [Act.put, List.setIfInBounds_toArray, List.set_cons_zero, List.set_cons_succ]
            refine tk (i := 13) (oi := ⟨some 138, _, _, _, _, _⟩) (v := ?_) rfl (by kernel_rfl) (fun _ _ _ h => h) (by assumption) (by rfl) (fun w hSw => ?_) ?_; rotate_left; (focus (first | (go_simp; done) | (go_simp; with_reducible rfl))); simp only [Act.put, List.setIfInBounds_toArray, List.set_cons_zero, List.set_cons_succ]
            refine tk (i := 14) (oi := ⟨some 139, _, _, _, _, _⟩) (v := ?_) rfl (by kernel_rfl) (fun _ _ _ h => h) (by assumption) (by rfl) (fun w hSw => ?_) ?_; rotate_left; (focus (first | (go_simp; done) | (go_simp; with_reducible rfl))); simp only [Act.put, List.setIfInBounds_toArray, List.set_cons_zero, List.set_cons_succ]
            refine tk (i := 15) (oi := ⟨some 140, _, _, _, _, _⟩) (v := ?_) rfl (by kernel_rfl) (fun _ _ _ h => h) (by assumption) (by rfl) (fun w hSw => ?_) ?_; rotate_left; (focus (first | (go_simp; done) | (go_simp; with_reducible rfl))); simp only [Act.put, List.setIfInBounds_toArray, List.set_cons_zero, List.set_cons_succ]
            refine alone (i := 12) (oi := ⟨some 137, _, _, _, _, _⟩) rfl (by kernel_rfl) (by rfl) (fun K hK => ?_); go_simp
            refine (htk _ hS.2.2).mono ?_
            rintro e w5 ⟨rfl, rfl⟩
            refine hK.out (fun wx => wx.cell? ⟨wr.heap.size, 1, none⟩ = some (.int .i64 z) ∧ wx.cell? ⟨b3, 2, none⟩ = some (.slice a3 F.length c3) ∧ Keeps No wc wx) _ _ (fun _ h => h) (hS) ?_
            clear hK K hS
            intro hS
            refine tk (i := 16) (oi := ⟨some 141, _, _, _, _, _⟩) (v := ?_) rfl (by kernel_rfl) (fun _ _ _ h => h) (by assumption) (by rfl) (fun w hSw => ?_) ?_; rotate_left; (focus (first | (go_simp; done) | (go_simp; with_reducible rfl))); simp only [Act.put, List.setIfInBounds_toArray, List.set_cons_zero, List.set_cons_succ]
            refine tk (i := 17) (oi := ⟨some 142, _, _, _, _, _⟩) (v := ?_) rfl (by kernel_rfl) (fun _ _ _ h => h) (by assumption) (by rfl) (fun w hSw => ?_) ?_; rotate_left; (focus (first | (go_simp; done) | (go_simp; with_reducible rfl))); simp only [Act.put, List.setIfInBounds_toArray, List.set_cons_zero, List.set_cons_succ]
            refine tk (i := 18) (oi := ⟨some 143, _, _, _, _, _⟩) (v := ?_) rfl (by kernel_rfl) (fun _ _ _ h => h) (by assumption) (by rfl) (fun w hSw => ?_) ?_; rotate_left; (focus (first | (go_simp; done) | (go_simp; with_reducible rfl))); simp only [Act.put, List.setIfInBounds_toArray, List.set_cons_zero, List.set_cons_succ]
            refine tk (i := 19) (oi := ⟨some 144, _, _, _, _, _⟩) (v := ?_) rfl (by kernel_rfl) (fun _ _ _ h => h) (by assumption) (by rfl) (fun w hSw => ?_) ?_; rotate_left; (focus (first | (go_simp; done) | (go_simp; with_reducible rfl))); simp only [Act.put, List.setIfInBounds_toArray, List.set_cons_zero, List.set_cons_succ]
            refine tk (i := 20) (oi := ⟨some 145, _, _, _, _, _⟩) (v := ?_) rfl (by kernel_rfl) (fun _ _ _ h => h) (by assumption) (by rfl) (fun w hSw => ?_) ?_; rotate_left; (focus (first | (go_simp; done) | (go_simp; with_reducible rfl))); simp only [Act.put, List.setIfInBounds_toArray, List.set_cons_zero, List.set_cons_succ]
            refine tk (i := 21) (oi := ⟨some 146, _, _, _, _, _⟩) (v := ?_) rfl (by kernel_rfl) (fun _ _ _ h => h) (by assumption) (by rfl) (fun w hSw => ?_) ?_; rotate_left; (focus (first | (go_simp; done) | (go_simp; with_reducible rfl))); simp only [Act.put, List.setIfInBounds_toArray, List.set_cons_zero, List.set_cons_succ]
            refine tk (i := 22) (oi := ⟨some 147, _, _, _, _, _⟩) (v := ?_) rfl (by kernel_rfl) (fun _ _ _ h => h) (by assumption) (by rfl) (fun w hSw => ?_) ?_; rotate_left; (focus (first | (go_simp; done) | (go_simp; with_reducible rfl))); simp only [Act.put, List.setIfInBounds_toArray, List.set_cons_zero, List.set_cons_succ]
            refine tk (i := 23) (oi := ⟨some 148, _, _, _, _, _⟩) (v := ?_) rfl (by kernel_rfl) (fun _ _ _ h => h) (by assumption) (by rfl) (fun w hSw => ?_) ?_; rotate_left; (focus (first | (go_simp; done) | (go_simp; with_reducible rfl))); simp only [Act.put, List.setIfInBounds_toArray, List.set_cons_zero, List.set_cons_succ]
            refine tk (i := 24) (oi := ⟨some 149, _, _, _, _, _⟩) (v := ?_) rfl (by kernel_rfl) (fun _ _ _ h => h) (by assumption) (by rfl) (fun w hSw => ?_) ?_; rotate_left; (focus (first | (go_simp; done) | (go_simp; with_reducible rfl))); simp only [Act.put, List.setIfInBounds_toArray, List.set_cons_zero, List.set_cons_succ]
            refine tk (i := 25) (oi := ⟨some 150, _, _, _, _, _⟩) (v := ?_) rfl (by kernel_rfl) (fun _ _ _ h => h) (by assumption) (by rfl) (fun w hSw => ?_) ?_; rotate_left; (focus (first | (go_simp; done) | (go_simp; with_reducible rfl))); simp only [Act.put, List.setIfInBounds_toArray, List.set_cons_zero, List.set_cons_succ]
            refine alone (i := 26) (oi := ⟨some 151, _, _, _, _, _⟩) rfl (by kernel_rfl) (by rfl) (fun K hK => ?_); go_simp
            refine (his _ hS.2.2).mono ?_
            rintro e w5 ⟨rfl, rfl⟩
            refine hK.out (fun wx => wx.cell? ⟨wr.heap.size, 1, none⟩ = some (.int .i64 z) ∧ wx.cell? ⟨b3, 2, none⟩ = some (.slice a3 F.length c3) ∧ Keeps No wc wx) _ _ (fun _ h => h) (hS) ?_
            clear hK K hS
            intro hS
            refine tk (i := 27) (oi := ⟨some 152, _, _, _, _, _⟩) (v := ?_) rfl (by kernel_rfl) (fun _ _ _ h => h) (by assumption) (by rfl) (fun w hSw => ?_) ?_; rotate_left; (focus (first | (go_simp; done) | (go_simp; with_reducible rfl))); simp only [Act.put, List.setIfInBounds_toArray, List.set_cons_zero, List.set_cons_succ]
            refine tk (i := 28) (oi := ⟨some 153, _, _, _, _, _⟩) (v := ?_) rfl (by kernel_rfl) (fun _ _ _ h => h) (by assumption) (by rfl) (fun w hSw => ?_) ?_; rotate_left; (focus (first | (go_simp; done) | (go_simp; with_reducible rfl))); simp only [Act.put, List.setIfInBounds_toArray, List.set_cons_zero, List.set_cons_succ]
            refine tk (i := 29) (oi := ⟨some 154, _, _, _, _, _⟩) (v := ?_) rfl (by kernel_rfl) (fun _ _ _ h => h) (by assumption) (by rfl) (fun w hSw => ?_) ?_; rotate_left; (focus (first | (go_simp; done) | (go_simp; with_reducible rfl))); simp only [Act.put, List.setIfInBounds_toArray, List.set_cons_zero, List.set_cons_succ]
            refine tk (i := 30) (oi := ⟨some 155, _, _, _, _, _⟩) (v := ?_) rfl (by kernel_rfl) (fun _ _ _ h => h) (by assumption) (by rfl) (fun w hSw => ?_) ?_; rotate_left; (focus (first | (go_simp; done) | (go_simp; with_reducible rfl))); simp only [Act.put, List.setIfInBounds_toArray, List.set_cons_zero, List.set_cons_succ]
            refine wpAnyH_done (by kernel_rfl) ?_ _
            go_wp2_with fail
            go_roundg (m - (j + 1))
            case measure => have := Hq.out; omega
            case rel => exact ⟨j + 1, T', _, by omega, rfl, by go_num, HTl'.out, hS'.kept (Keeps.refl No wc).drew, hX'.kept (Keeps.refl No wc).drew, Hv'.out, hkr'.drew⟩
      · go_wp2_with (refine wpList_loadV rfl 54 _ rfl _ rfl _ hld ?_)
        go_ret
        exact ⟨rfl, hkr.alloc _⟩
    · obtain rfl : m = j := by omega
      go_wp2_with fail
      go_ret
      exact ⟨rfl, hkr⟩
end Go.Proofs.Ytpceigiofbeihaa
