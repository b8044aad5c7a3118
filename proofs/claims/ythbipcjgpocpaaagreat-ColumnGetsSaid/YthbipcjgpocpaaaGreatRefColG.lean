import Derived.Test.YthbipcjgpocpaaaGreatRefCol
/- Layer 14, the document's answer: the walk of layer 3's Get. -/
namespace Go.Proofs.YthbipcjgpocpaaaGreat
open Go.RowKit
set_option linter.unusedSimpArgs false
set_option linter.unusedVariables false
set_option maxRecDepth 100000

/-- A value that is read: what is written so is read back. -/
def R3 (Kb : UInt8) (b : List UInt8) (v : Va) (m : Nat) : Prop :=
  v.wf ∧ m ≤ b.length + 1 ∧ ∀ x r, rightV x = true → x.k = (Kb.toNat : Int) → x.wf → 1 ≤ x.k ∧ x.k ≤ 4 → b = plainV x ++ r → v = x ∧ m = 1 + (plainV x).length
theorem zero_wf : Va.zero.wf := ⟨by decide, by decide, by decide⟩
theorem readP_put (u : Nat) (r : List UInt8) (h : u < 18446744073709551616) : readP (nat7 u ++ r) = (u, (nat7 u).length) := by
  unfold readP
  rw [natGo_put u r h]
  show (u, (nat7 u ++ r).length - r.length) = _
  rw [List.length_append, Nat.add_sub_cancel]
theorem readP_le (b : List UInt8) : (readP b).2 ≤ b.length := by
  unfold readP readQ
  split
  · omega
  · omega
theorem readP_lt (b : List UInt8) : (readP b).1 < 18446744073709551616 := by
  unfold readP readQ
  split
  · rename_i v r h; exact (natGo_lt64 h).1
  · decide
theorem nat7_pos (u : Nat) (h : u < 18446744073709551616) : 0 < (nat7 u).length := (nat7_len 9 u (by omega)).2
/-- A float's bytes, the highest first: t of the eight are in. -/
def fromHi (b : List UInt8) : Nat → Nat
  | 0 => 0
  | t + 1 => fromHi b t * 256 + (b.getD (7 - t) 0).toNat
theorem fromHi_lt (b : List UInt8) : ∀ t, fromHi b t < 256 ^ t
  | 0 => by show (0 : Nat) < 1; decide
  | t + 1 => by
    have := fromHi_lt b t
    have h := (b.getD (7 - t) 0).toNat_lt
    unfold fromHi
    rw [Nat.pow_succ]
    omega
theorem fromHi_le8 (f : Nat) (r : List UInt8) (hf : f < 18446744073709551616) : ∀ t, t ≤ 8 → fromHi (le8 f ++ r) t = f / 2 ^ (8 * (8 - t))
  | 0, _ => by
    have : f / 2 ^ (8 * (8 - 0)) = 0 := Nat.div_eq_of_lt hf
    rw [this]; rfl
  | t + 1, h => by
    have ih := fromHi_le8 f r hf t (by omega)
    unfold fromHi
    have hg : (le8 f ++ r).getD (7 - t) 0 = UInt8.ofNat (f / 2 ^ (8 * (7 - t))) := by
      rw [getD_app_l _ _ _ _ (by rw [le8_len]; omega), le8_get f (7 - t) (by omega)]
    rw [ih, hg, UInt8.toNat_ofNat', show 8 - t = (7 - t) + 1 by omega, show 8 - (t + 1) = 7 - t by omega, show 8 * (7 - t + 1) = 8 * (7 - t) + 8 by omega, Nat.pow_add, ← Nat.div_div_eq_div_mul]
    omega

theorem R3.no {Kb : UInt8} {b : List UInt8} (h : ∀ x r, rightV x = true → x.k = (Kb.toNat : Int) → x.wf → 1 ≤ x.k ∧ x.k ≤ 4 → b ≠ plainV x ++ r) : R3 Kb b Va.zero 0 :=
  ⟨zero_wf, Nat.zero_le _, fun x r h1 h2 h3 h4 h5 => absurd h5 (h x r h1 h2 h3 h4)⟩
theorem plain1 {x : Va} (h : x.k = 1) : plainV x = nat7 (fold x.n) := by unfold plainV; rw [if_pos h]
theorem plain2 {x : Va} (h : x.k = 2) : plainV x = [UInt8.ofNat x.n.toNat] := by unfold plainV; rw [if_neg (by omega), if_pos h]
theorem plain3 {x : Va} (h : x.k = 3) : plainV x = nat7 x.s.size ++ x.s.data.toList := by unfold plainV; rw [if_neg (by omega), if_neg (by omega), if_pos h]

set_option maxHeartbeats 8000000 in
theorem r3get_any (Kb : UInt8) (a : Option Addr) (n c : Nat) (b : List UInt8) (w : World) (hs : Sl w a n c ((Kb :: b).map byteV)) (hn : n ≤ 100001) :
    Calls Tryz.prog 35 #[.slice a n c] w fun e w' => ∃ (v : Va) (m : Nat), e = .returned (.tuple #[v.agg, .int .i64 (m : Int)]) ∧ R3 Kb b v m ∧ Keeps No w w' := by
  have hlen : b.length + 1 = n := by simpa using hs.len
  have hn0 : 0 < n := by omega
  have Hlen := Lib.hid hlen
  clear hlen
  have hKlt := Kb.toNat_lt
  have hix0 := hs.ixz (P := Tryz.prog) Tryz.underlying22 (by kernel_rfl) 0 (i := 0) rfl hn0 .i64
  have hc0 := hs.at_ hn0
  have hb0 : ((Kb :: b).map byteV).getD 0 undef = .int .u8 (Kb.toNat : Int) := rfl
  rw [hb0, addr_add0] at hc0
  obtain ⟨kb, hkb⟩ : ∃ kb, kb = Kb.toNat := ⟨_, rfl⟩
  rw [← hkb] at hc0 hKlt
  have Hkb := Lib.hid hkb
  clear hkb hb0
  have hc0A := (((Keeps.refl No w).alloc (.cells #[.int .i64 0, .int .i64 0, .string ⟨#[]⟩, .int .u64 0] 32))).cell hc0 (not_No _)
  have hc0B := (((Keeps.refl No w).alloc (.cells #[.int .i64 0, .int .i64 0, .string ⟨#[]⟩, .int .u64 0] 32)).alloc (.cells #[.int .i64 (kb : Int), .int .i64 0, .string ⟨#[]⟩, .int .u64 0] 32)).cell hc0 (not_No _)
  go_enter Tryz.func35, Tryz.ntmps35
  go_upto_block 0 with fail
  have hkW : Keeps No w ((w.alloc (.cells #[.int .i64 0, .int .i64 0, .string ⟨#[]⟩, .int .u64 0] 32)).alloc (.cells #[.int .i64 (kb : Int), .int .i64 0, .string ⟨#[]⟩, .int .u64 0] 32)) := ((Keeps.refl No w).alloc _).alloc _
  have hb2 := ((Keeps.refl No _).alloc (.cells #[.int .i64 (kb : Int), .int .i64 0, .string ⟨#[]⟩, .int .u64 0] 32)).blk (heap_alloc_new w (.cells #[.int .i64 0, .int .i64 0, .string ⟨#[]⟩, .int .u64 0] 32)) (not_No _)
  have hb4 := heap_alloc_new (w.alloc (.cells #[.int .i64 0, .int .i64 0, .string ⟨#[]⟩, .int .u64 0] 32)) (.cells #[.int .i64 (kb : Int), .int .i64 0, .string ⟨#[]⟩, .int .u64 0] 32)
  rw [show (w.alloc (.cells #[.int .i64 0, .int .i64 0, .string ⟨#[]⟩, .int .u64 0] 32)).heap.size = w.heap.size + 1 by simp] at hb4
  generalize (w.alloc (.cells #[.int .i64 0, .int .i64 0, .string ⟨#[]⟩, .int .u64 0] 32)).alloc (.cells #[.int .i64 (kb : Int), .int .i64 0, .string ⟨#[]⟩, .int .u64 0] 32) = W at hkW hb2 hb4 hc0B ⊢
  clear hc0A
  have hsW := hs.kept hkW
  have hzW : w.heap.size + 1 < W.heap.size := (Array.getElem?_eq_some_iff.1 hb4).1
  go_cut [5] (fun t wx => ∃ (x : Va) (m : Nat), t = .int .i64 (m : Int) ∧ m ≤ n ∧ wx.heap[w.heap.size + 1]? = some (.cells #[.int .i64 x.k, .int .i64 x.n, .string x.s, .int .u64 (x.f : Int)] 32 (0, 0)) ∧ wx.heap[w.heap.size]? = some (.cells #[.int .i64 0, .int .i64 0, .string ⟨#[]⟩, .int .u64 0] 32 (0, 0)) ∧ Keeps No w wx ∧ Hid x.wf ∧ Hid (∀ y r, rightV y = true → y.k = (Kb.toNat : Int) → y.wf → 1 ≤ y.k ∧ y.k ≤ 4 → b = plainV y ++ r → x = y ∧ m = 1 + (plainV y).length))
  case first =>
    obtain ⟨q0, q1, q2, q3⟩ := row4 hb4
    have hfr := fun j => frozen_of_row W (w.heap.size + 1) j _ _ hb4
    have hbset := fun (j : Nat) (v : Value) => heap_setCell_same W (w.heap.size + 1) j _ _ v hb4
    have hkset := fun (j : Nat) (v : Value) => Keeps.set W (w.heap.size + 1) j v
    have Hbset := Lib.hid hbset
    have Hkset := Lib.hid hkset
    have hf1 := hfr 1
    have hf2 := hfr 2
    have hf3 := hfr 3
    clear hfr hbset hkset
    rcases (show kb = 0 ∨ kb = 1 ∨ kb = 2 ∨ kb = 3 ∨ kb = 4 ∨ 4 < kb by omega) with rfl | rfl | rfl | rfl | rfl | h5
    · go_wp2_with fail
      go_meet
      exact ⟨Va.zero, 1, rfl, by omega, hb4, hb2, hkW, Lib.hid zero_wf, Lib.hid (fun y r h1 h2 h3 h4 h5 => by have := Hkb.out; omega)⟩
    · obtain ⟨a1, hsl1, hsl2, hs1, _⟩ := hsW.from_ (P := Tryz.prog) (T := 22) Tryz.underlying22 (by kernel_rfl) (k := 1) (by omega) .i64 1 rfl
      have hs1' : Sl W a1 (n - 1) (c - 1) (b.map byteV) := hs1
      have hul := readP_lt b
      have hkl := readP_le b
      have hrd : ∀ y r, rightV y = true → y.k = 1 → y.wf → b = plainV y ++ r → (readP b).1 = fold y.n ∧ (readP b).2 = (nat7 (fold y.n)).length := fun y r h1 h2 h3 h4 => by
        rw [h4, plain1 h2, readP_put _ _ (fold_lt (wf_i64_iff h3.2.1))]; exact ⟨rfl, rfl⟩
      have hcall := read_any a1 (n - 1) (c - 1) b W hs1' (by omega)
      generalize (readP b).1 = u at hul hrd hcall
      generalize (readP b).2 = k2 at hkl hrd hcall
      have Hrd := Lib.hid hrd
      clear hrd hs1
      go_wp2_with fail
      refine hcall.mono ?_
      rintro e w3 ⟨rfl, rfl⟩
      clear hcall
      rcases Nat.eq_zero_or_pos k2 with h0 | hpos
      · subst h0
        go_wp2_with (refine wpList_storeRow rfl 32 (.tmp 2) (.tmp 36) rfl w.heap.size #[.int .i64 0, .int .i64 0, .string ⟨#[]⟩, .int .u64 0] rfl rfl 32 _ hb2 (by kernel_rfl) rfl (by kernel_rfl) ?_)
        intro w9 hb9 hz9 hk9
        obtain ⟨z0, z1, z2, z3⟩ := row4 hb9
        go_wp2_with fail
        exact bodyPost_ret (v := .tuple #[.agg #[.int .i64 0, .int .i64 0, .string ⟨#[]⟩, .int .u64 0], .int .i64 0]) (by simp [results, Tryz.results35, go_sem, z0, z1, z2, z3]) rfl ⟨Va.zero, 0, rfl, R3.no (fun x r h1 h2 h3 h4 h5 => by
          have h6 : x.k = 1 := by rw [h2, ← Hkb.out]; rfl
          have := (Hrd.out x r h1 h6 h3 h5).2; have := nat7_pos _ (fold_lt (wf_i64_iff h3.2.1)); omega), hkW.trans hk9 (fun i hi e => by omega)⟩
      · have ek : ((k2 : Int) == 0) = false := by rw [beq_eq_false_iff_ne]; omega
        go_wp2_with fail
        refine (unfolded_any u _ hul).mono ?_
        rintro e w4 ⟨rfl, rfl⟩
        have hbs := Hbset.out 1 (.int .i64 (unfoldN u))
        have hks := Hkset.out 1 (.int .i64 (unfoldN u))
        have hb2s := hks.blk hb2 (show ¬ w.heap.size = w.heap.size + 1 by omega)
        have hlb : b.length + 1 = n := Hlen.out
        have hin : -9223372036854775808 ≤ unfoldN u ∧ unfoldN u ≤ 9223372036854775807 := by unfold unfoldN; split <;> omega
        go_wp2_with fail
        go_meet
        refine ⟨⟨1, unfoldN u, ByteArray.empty, 0⟩, 1 + k2, by go_num, by omega, hbs, hb2s, hkW.trans hks (fun i hi e => by omega), Lib.hid ⟨wf_of (x := 1) (by decide), wf_of (x := unfoldN u) hin, show (0 : Nat) < 18446744073709551616 by decide⟩, Lib.hid (fun y r h1 h2 h3 h4 h5 => ?_)⟩
        have h6 : y.k = 1 := by rw [h2, ← Hkb.out]; rfl
        obtain ⟨e1, e2⟩ := Hrd.out y r h1 h6 h3 h5
        rw [e1, e2, unfold_fold, plain1 h6]
        exact ⟨(right_one h1 h6).symm, rfl⟩
    · cases b with
      | nil =>
        obtain rfl : n = 1 := by have := Hlen.out; simpa using this.symm
        go_wp2_with (refine wpList_storeRow rfl 32 (.tmp 2) (.tmp 54) rfl w.heap.size #[.int .i64 0, .int .i64 0, .string ⟨#[]⟩, .int .u64 0] rfl rfl 32 _ hb2 (by kernel_rfl) rfl (by kernel_rfl) ?_)
        intro w9 hb9 hz9 hk9
        obtain ⟨z0, z1, z2, z3⟩ := row4 hb9
        go_wp2_with fail
        exact bodyPost_ret (v := .tuple #[.agg #[.int .i64 0, .int .i64 0, .string ⟨#[]⟩, .int .u64 0], .int .i64 0]) (by simp [results, Tryz.results35, go_sem, z0, z1, z2, z3]) rfl ⟨Va.zero, 0, rfl, R3.no (fun x r h1 h2 h3 h4 h5 => by
          have h6 : x.k = 2 := by rw [h2, ← Hkb.out]; rfl
          rw [plain2 h6] at h5; cases h5), hkW.trans hk9 (fun i hi e => by omega)⟩
      | cons y0 b' =>
        have hn2 : 1 < n := by have := Hlen.out; simp at this; omega
        have hix1 := hsW.ixz (P := Tryz.prog) Tryz.underlying22 (by kernel_rfl) 1 (i := 1) rfl hn2 .i64
        have hc1 := hsW.at_ hn2
        have hb1 : ((Kb :: y0 :: b').map byteV).getD 1 undef = .int .u8 (y0.toNat : Int) := rfl
        rw [hb1] at hc1
        generalize (a.getD default).add 1 = p1 at hix1 hc1
        have hylt := y0.toNat_lt
        have hy2 : ∀ x r, rightV x = true → x.k = 2 → (y0 :: b') = plainV x ++ r → (y0.toNat : Int) = x.n ∧ y0.toNat ≤ 1 := fun x r h1 h2 h5 => by
          rw [plain2 h2] at h5
          injection h5 with h6 _
          rw [h6]
          rcases (right_two h1 h2).2 with h | h <;> rw [h] <;> exact ⟨by decide, by decide⟩
        generalize y0.toNat = y1 at hc1 hylt hy2
        have Hy2 := Lib.hid hy2
        clear hy2 hb1
        by_cases hy : 1 < y1
        · have ey : decide ((1 : Int) < (y1 : Int)) = true := decide_eq_true (by omega)
          go_wp2_with (refine wpList_storeRow rfl 32 (.tmp 2) (.tmp 54) rfl w.heap.size #[.int .i64 0, .int .i64 0, .string ⟨#[]⟩, .int .u64 0] rfl rfl 32 _ hb2 (by kernel_rfl) rfl (by kernel_rfl) ?_)
          intro w9 hb9 hz9 hk9
          obtain ⟨z0, z1, z2, z3⟩ := row4 hb9
          go_wp2_with fail
          exact bodyPost_ret (v := .tuple #[.agg #[.int .i64 0, .int .i64 0, .string ⟨#[]⟩, .int .u64 0], .int .i64 0]) (by simp [results, Tryz.results35, go_sem, z0, z1, z2, z3]) rfl ⟨Va.zero, 0, rfl, R3.no (fun x r h1 h2 h3 h4 h5 => by
          have h6 : x.k = 2 := by rw [h2, ← Hkb.out]; rfl
          have := (Hy2.out x r h1 h6 h5).2; omega), hkW.trans hk9 (fun i hi e => by omega)⟩
        · have hbs := Hbset.out 1 (.int .i64 (y1 : Int))
          have hks := Hkset.out 1 (.int .i64 (y1 : Int))
          have hb2s := hks.blk hb2 (show ¬ w.heap.size = w.heap.size + 1 by omega)
          go_wp2_with fail
          go_meet
          refine ⟨⟨2, (y1 : Int), ByteArray.empty, 0⟩, 2, rfl, by omega, hbs, hb2s, hkW.trans hks (fun i hi e => by omega), Lib.hid ⟨wf_of (x := 2) (by decide), wf_of (x := (y1 : Int)) (by omega), show (0 : Nat) < 18446744073709551616 by decide⟩, Lib.hid (fun y r h1 h2 h3 h4 h5 => ?_)⟩
          have h6 : y.k = 2 := by rw [h2, ← Hkb.out]; rfl
          have e1 := (Hy2.out y r h1 h6 h5).1
          rw [e1, plain2 h6]
          exact ⟨(right_two h1 h6).1.symm, rfl⟩
    · obtain ⟨a1, hsl1, hsl2, hs1, _⟩ := hsW.from_ (P := Tryz.prog) (T := 22) Tryz.underlying22 (by kernel_rfl) (k := 1) (by omega) .i64 1 rfl
      have hs1' : Sl W a1 (n - 1) (c - 1) (b.map byteV) := hs1
      have hul := readP_lt b
      have hkl := readP_le b
      have hrd : ∀ y r, rightV y = true → y.k = 3 → b = plainV y ++ r → (readP b).1 = y.s.size ∧ (readP b).2 = (nat7 y.s.size).length ∧ 0 < (readP b).2 ∧ (readP b).1 ≤ 64 ∧ (readP b).2 + (readP b).1 ≤ b.length ∧ (b.drop (readP b).2).take (readP b).1 = y.s.data.toList := fun y r h1 h2 h4 => by
        have hsz := (right_three h1 h2).2
        have hbl := blen y.s
        have e : readP b = (y.s.size, (nat7 y.s.size).length) := by rw [h4, plain3 h2, List.append_assoc, readP_put _ _ (by omega)]
        rw [e]
        refine ⟨rfl, rfl, nat7_pos _ (by omega), hsz, ?_, ?_⟩
        · rw [h4, plain3 h2]; simp only [List.length_append]; omega
        · rw [h4, plain3 h2, List.append_assoc, List.drop_left, List.take_left' hbl]
      have hcall := read_any a1 (n - 1) (c - 1) b W hs1' (by omega)
      generalize (readP b).1 = u at hul hrd hcall
      generalize (readP b).2 = k2 at hkl hrd hcall
      have hkn : k2 + 1 ≤ n := by have := Hlen.out; omega
      have Hrd := Lib.hid hrd
      clear hrd hs1
      go_wp2_with fail
      refine hcall.mono ?_
      rintro e w3 ⟨rfl, rfl⟩
      clear hcall
      rcases Nat.eq_zero_or_pos k2 with h0 | hpos
      · subst h0
        go_wp2_with (refine wpList_storeRow rfl 32 (.tmp 2) (.tmp 84) rfl w.heap.size #[.int .i64 0, .int .i64 0, .string ⟨#[]⟩, .int .u64 0] rfl rfl 32 _ hb2 (by kernel_rfl) rfl (by kernel_rfl) ?_)
        intro w9 hb9 hz9 hk9
        obtain ⟨z0, z1, z2, z3⟩ := row4 hb9
        go_wp2_with fail
        exact bodyPost_ret (v := .tuple #[.agg #[.int .i64 0, .int .i64 0, .string ⟨#[]⟩, .int .u64 0], .int .i64 0]) (by simp [results, Tryz.results35, go_sem, z0, z1, z2, z3]) rfl ⟨Va.zero, 0, rfl, R3.no (fun x r h1 h2 h3 h4 h5 => by
          have h6 : x.k = 3 := by rw [h2, ← Hkb.out]; rfl
          obtain ⟨e1, e2, e3, e4, e5, _⟩ := Hrd.out x r h1 h6 h5
          omega), hkW.trans hk9 (fun i hi e => by omega)⟩
      have ek : ((k2 : Int) == 0) = false := by rw [beq_eq_false_iff_ne]; omega
      by_cases hu64 : 64 < u
      ·
        go_wp2_with (refine wpList_storeRow rfl 32 (.tmp 2) (.tmp 84) rfl w.heap.size #[.int .i64 0, .int .i64 0, .string ⟨#[]⟩, .int .u64 0] rfl rfl 32 _ hb2 (by kernel_rfl) rfl (by kernel_rfl) ?_)
        intro w9 hb9 hz9 hk9
        obtain ⟨z0, z1, z2, z3⟩ := row4 hb9
        go_wp2_with fail
        exact bodyPost_ret (v := .tuple #[.agg #[.int .i64 0, .int .i64 0, .string ⟨#[]⟩, .int .u64 0], .int .i64 0]) (by simp [results, Tryz.results35, go_sem, z0, z1, z2, z3]) rfl ⟨Va.zero, 0, rfl, R3.no (fun x r h1 h2 h3 h4 h5 => by
          have h6 : x.k = 3 := by rw [h2, ← Hkb.out]; rfl
          obtain ⟨e1, e2, e3, e4, e5, _⟩ := Hrd.out x r h1 h6 h5
          omega), hkW.trans hk9 (fun i hi e => by omega)⟩
      by_cases hufit : (n : Int) - 1 - (k2 : Int) < (u : Int)
      · have hlb : b.length + 1 = n := Hlen.out
        go_wp2_with (refine wpList_storeRow rfl 32 (.tmp 2) (.tmp 84) rfl w.heap.size #[.int .i64 0, .int .i64 0, .string ⟨#[]⟩, .int .u64 0] rfl rfl 32 _ hb2 (by kernel_rfl) rfl (by kernel_rfl) ?_)
        intro w9 hb9 hz9 hk9
        obtain ⟨z0, z1, z2, z3⟩ := row4 hb9
        go_wp2_with fail
        exact bodyPost_ret (v := .tuple #[.agg #[.int .i64 0, .int .i64 0, .string ⟨#[]⟩, .int .u64 0], .int .i64 0]) (by simp [results, Tryz.results35, go_sem, z0, z1, z2, z3]) rfl ⟨Va.zero, 0, rfl, R3.no (fun x r h1 h2 h3 h4 h5 => by
          have h6 : x.k = 3 := by rw [h2, ← Hkb.out]; rfl
          obtain ⟨e1, e2, e3, e4, e5, _⟩ := Hrd.out x r h1 h6 h5
          omega), hkW.trans hk9 (fun i hi e => by omega)⟩
      · have hlb : b.length + 1 = n := Hlen.out
        obtain ⟨am, hrm1, hrm2, hsm⟩ := hsW.mid (P := Tryz.prog) (T := 22) Tryz.underlying22 (by kernel_rfl) (lo := 1 + k2) (hi := 1 + k2 + u) (by omega) (by omega) .i64 .i64 ((1 : Int) + (k2 : Int)) ((1 : Int) + (k2 : Int) + (u : Int)) (by omega) (by omega)
        rw [Nat.add_sub_cancel_left] at hrm1 hrm2 hsm
        have hsm' : Sl W am u (c - (1 + k2)) (((b.drop k2).take u).map byteV) := by
          rw [List.map_take, List.map_drop]
          rw [List.map_cons, Nat.add_comm 1 k2, List.drop_succ_cons] at hsm
          rw [Nat.add_comm 1 k2]
          exact hsm
        have hstr := hsm'.str (P := Tryz.prog) 22 9 _ Tryz.underlying22 Tryz.underlying5 Tryz.underlying9
        obtain ⟨D, hD⟩ : ∃ D, D = (b.drop k2).take u := ⟨_, rfl⟩
        rw [← hD] at hstr
        have HD := Lib.hid hD
        have hbs := Hbset.out 2 (.string ⟨D.toArray⟩)
        have hks := Hkset.out 2 (.string ⟨D.toArray⟩)
        have hb2s := hks.blk hb2 (show ¬ w.heap.size = w.heap.size + 1 by omega)
        clear hD hlb hsm hsm'
        go_wp2_with fail
        go_meet
        refine ⟨⟨3, 0, ⟨D.toArray⟩, 0⟩, 1 + (k2 + u), by go_num, by have := Hlen.out; omega, hbs, hb2s, hkW.trans hks (fun i hi e => by omega), Lib.hid ⟨wf_of (x := 3) (by decide), wf_of (x := 0) (by decide), show (0 : Nat) < 18446744073709551616 by decide⟩, Lib.hid (fun y r h1 h2 h3 h4 h5 => ?_)⟩
        have h6 : y.k = 3 := by rw [h2, ← Hkb.out]; rfl
        obtain ⟨e1, e2, _, _, _, e6⟩ := Hrd.out y r h1 h6 h5
        rw [HD.out, e6, plain3 h6, e1, e2, List.length_append, blen]
        exact ⟨(right_three h1 h6).1.symm, rfl⟩
    · by_cases h9 : n < 9
      ·
        go_wp2_with (refine wpList_storeRow rfl 32 (.tmp 2) (.tmp 107) rfl w.heap.size #[.int .i64 0, .int .i64 0, .string ⟨#[]⟩, .int .u64 0] rfl rfl 32 _ hb2 (by kernel_rfl) rfl (by kernel_rfl) ?_)
        intro w9 hb9 hz9 hk9
        obtain ⟨z0, z1, z2, z3⟩ := row4 hb9
        go_wp2_with fail
        exact bodyPost_ret (v := .tuple #[.agg #[.int .i64 0, .int .i64 0, .string ⟨#[]⟩, .int .u64 0], .int .i64 0]) (by simp [results, Tryz.results35, go_sem, z0, z1, z2, z3]) rfl ⟨Va.zero, 0, rfl, R3.no (fun x r h1 h2 h3 h4 h5 => by
          have h6 : x.k = 4 := by rw [h2, ← Hkb.out]; rfl
          have := Hlen.out
          rw [h5, plain_four h6, List.length_append, le8_len] at this
          omega), hkW.trans hk9 (fun i hi e => by omega)⟩
      have en0 : ((n : Int) == 0) = false := by rw [beq_eq_false_iff_ne]; omega
      go_wp2_with fail
      try simp only [en0]
      try simp only [show ((4 : Nat) : Int) = 4 from rfl]
      go_loopg [10] 8 (fun q i wr => ∃ (t F : Nat), t ≤ 8 ∧ q = 8 - t ∧ i = .int .i64 ((8 - t : Nat) : Int) ∧ Hid (F = fromHi b t) ∧ F < 256 ^ t ∧ wr.heap[w.heap.size + 1]? = some (.cells #[.int .i64 4, .int .i64 0, .string ⟨#[]⟩, .int .u64 (F : Int)] 32 (0, 0)) ∧ wr.heap[w.heap.size]? = some (.cells #[.int .i64 0, .int .i64 0, .string ⟨#[]⟩, .int .u64 0] 32 (0, 0)) ∧ Keeps No w wr)
      case atStart => exact ⟨0, 0, by omega, rfl, rfl, Lib.hid rfl, by decide, hb4, hb2, hkW⟩
      case round =>
        obtain ⟨t, F, ht, hq, rfl, HF, hF, hb4r, hb2r, hkr⟩ := hrel
        have Hq := Lib.hid hq
        clear hq
        have hsr := hs.kept hkr
        by_cases ht8 : t < 8
        · obtain ⟨j, hj⟩ : ∃ j, j = 8 - t := ⟨_, rfl⟩
          rw [← hj]
          have hj1 : 1 ≤ j ∧ j ≤ 8 := by omega
          have hjn : j < n := by omega
          have hix := hsr.ix (P := Tryz.prog) Tryz.underlying22 (by kernel_rfl) hjn .i64
          have hcj := hsr.at_ hjn
          obtain ⟨y, hy⟩ : ∃ y, y = b.getD (7 - t) 0 := ⟨_, rfl⟩
          have hjb : j - 1 < b.length := by have := Hlen.out; omega
          have hbj : ((Kb :: b).map byteV).getD j undef = .int .u8 (y.toNat : Int) := by
            obtain ⟨i, rfl⟩ : ∃ i, j = i + 1 := ⟨j - 1, by omega⟩
            have e7 : 7 - t = i := by omega
            rw [hy, e7]
            have hil : i < b.length := by omega
            simp [hil, byteV]
          rw [hbj] at hcj
          have hylt := y.toNat_lt
          have Hy := Lib.hid hy
          have Hj := Lib.hid hj
          have h7 : 256 ^ t ≤ 256 ^ 7 := Nat.pow_le_pow_right (by decide) (by omega)
          have hnx : fromHi b (t + 1) = F * 256 + y.toNat := by
            show fromHi b t * 256 + (b.getD (7 - t) 0).toNat = _
            rw [← HF.out, ← hy]
          have hlt' := fromHi_lt b (t + 1)
          rw [hnx] at hlt'
          have Hnx := Lib.hid hnx
          clear hy hj hbj hnx
          generalize y.toNat = y1 at hcj hylt hlt' Hnx
          have hmul : IntKind.u64.wrap ((F : Int) * 256) = (F : Int) * 256 := by rw [IntKind.wrap_u64]; omega
          have hcv : IntKind.u64.wrap (y1 : Int) = (y1 : Int) := by rw [IntKind.wrap_u64]; omega
          have hadd : IntKind.u64.wrap ((F : Int) * 256 + (y1 : Int)) = (F : Int) * 256 + (y1 : Int) := by rw [IntKind.wrap_u64]; omega
          have hfam := fun wx (hx : Keeps No wr wx) => (row4 (hx.blk hb4r (not_No _))).2.2.2
          have hfamF := fun wx (hx : Keeps No wr wx) => frozen_of_row wx (w.heap.size + 1) 3 _ _ (hx.blk hb4r (not_No _))
          have hcf := fun wx (hx : Keeps No wr wx) => hx.cell hcj (not_No _)
          go_wp2_with fail
          refine region_L (fun wx => Keeps No wr wx) 10 (by kernel_rfl) ((Keeps.refl No wr).drew) (fun hS => ?_)
          refine tkL (i := 0) (oi := ⟨some 112, _, _, _, _, _⟩) (v := ?_) rfl (by kernel_rfl) (fun _ _ _ h => h) (by assumption) (by rfl) (fun w hSw => ?_) ?_; rotate_left; (focus (first | (go_simp; done) | (go_simp; with_reducible rfl))); simp only [Act.put, List.setIfInBounds_toArray, List.set_cons_zero, List.set_cons_succ]
          refine tkL (i := 1) (oi := ⟨some 113, _, _, _, _, _⟩) (v := ?_) rfl (by kernel_rfl) (fun _ _ _ h => h) (by assumption) (by rfl) (fun w hSw => ?_) ?_; rotate_left; (focus (first | (go_simp; done) | (go_simp; with_reducible rfl))); simp only [Act.put, List.setIfInBounds_toArray, List.set_cons_zero, List.set_cons_succ]
          refine tkL (i := 2) (oi := ⟨some 114, _, _, _, _, _⟩) (v := ?_) rfl (by kernel_rfl) (fun _ _ _ h => h) (by assumption) (by rfl) (fun w hSw => ?_) ?_; rotate_left; (focus (first | (go_simp; done) | (go_simp; with_reducible rfl))); simp only [Act.put, List.setIfInBounds_toArray, List.set_cons_zero, List.set_cons_succ]
          refine tkL (i := 3) (oi := ⟨some 115, _, _, _, _, _⟩) (v := ?_) rfl (by kernel_rfl) (fun _ _ _ h => h) (by assumption) (by rfl) (fun w hSw => ?_) ?_; rotate_left; (focus (first | (go_simp; done) | (go_simp; with_reducible rfl))); simp only [Act.put, List.setIfInBounds_toArray, List.set_cons_zero, List.set_cons_succ]
          refine tkL (i := 4) (oi := ⟨some 116, _, _, _, _, _⟩) (v := ?_) rfl (by kernel_rfl) (fun _ _ _ h => h) (by assumption) (by rfl) (fun w hSw => ?_) ?_; rotate_left; (focus (first | (go_simp; done) | (go_simp; with_reducible rfl))); simp only [Act.put, List.setIfInBounds_toArray, List.set_cons_zero, List.set_cons_succ]
          refine tkL (i := 5) (oi := ⟨some 117, _, _, _, _, _⟩) (v := ?_) rfl (by kernel_rfl) (fun _ _ _ h => h) (by assumption) (by rfl) (fun w hSw => ?_) ?_; rotate_left; (focus (first | (go_simp; done) | (go_simp; with_reducible rfl))); simp only [Act.put, List.setIfInBounds_toArray, List.set_cons_zero, List.set_cons_succ]
          refine tkL (i := 6) (oi := ⟨some 118, _, _, _, _, _⟩) (v := ?_) rfl (by kernel_rfl) (fun _ _ _ h => h) (by assumption) (by rfl) (fun w hSw => ?_) ?_; rotate_left; (focus (first | (go_simp; done) | (go_simp; with_reducible rfl))); simp only [Act.put, List.setIfInBounds_toArray, List.set_cons_zero, List.set_cons_succ]
          refine tkL (i := 7) (oi := ⟨some 119, _, _, _, _, _⟩) (v := ?_) rfl (by kernel_rfl) (fun _ _ _ h => h) (by assumption) (by rfl) (fun w hSw => ?_) ?_; rotate_left; (focus (first | (go_simp; done) | (go_simp; with_reducible rfl))); simp only [Act.put, List.setIfInBounds_toArray, List.set_cons_zero, List.set_cons_succ]
          refine tkL (i := 8) (oi := ⟨some 120, _, _, _, _, _⟩) (v := ?_) rfl (by kernel_rfl) (fun _ _ _ h => h) (by assumption) (by rfl) (fun w hSw => ?_) ?_; rotate_left; (focus (first | (go_simp; done) | (go_simp; with_reducible rfl))); simp only [Act.put, List.setIfInBounds_toArray, List.set_cons_zero, List.set_cons_succ]
          refine tkL (i := 9) (oi := ⟨some 121, _, _, _, _, _⟩) (v := ?_) rfl (by kernel_rfl) (fun _ _ _ h => h) (by assumption) (by rfl) (fun w hSw => ?_) ?_; rotate_left; (focus (first | (go_simp; done) | (go_simp; with_reducible rfl))); simp only [Act.put, List.setIfInBounds_toArray, List.set_cons_zero, List.set_cons_succ]
          refine aloneL (i := 10) (oi := ⟨none, _, _, _, _, _⟩) rfl (by kernel_rfl) (by rfl) (fun K hK => ?_); go_simp
          have hbs : ((wr.setCell ⟨w.heap.size + 1, 3, none⟩ (.int .u64 ((F : Int) * 256 + (y1 : Int)))).drew).heap[w.heap.size + 1]? = some (.cells #[.int .i64 4, .int .i64 0, .string ⟨#[]⟩, .int .u64 ((F * 256 + y1 : Nat) : Int)] 32 (0, 0)) := by
            rw [Int.natCast_add, Int.natCast_mul]
            exact heap_setCell_same wr (w.heap.size + 1) 3 _ _ (.int .u64 ((F : Int) * 256 + (y1 : Int))) hb4r
          have hkS : Keeps (fun i => i = w.heap.size + 1) wr ((wr.setCell ⟨w.heap.size + 1, 3, none⟩ (.int .u64 ((F : Int) * 256 + (y1 : Int)))).drew) := (Keeps.set wr (w.heap.size + 1) 3 _).drew
          generalize (wr.setCell ⟨w.heap.size + 1, 3, none⟩ (.int .u64 ((F : Int) * 256 + (y1 : Int)))).drew = w4 at hbs hkS ⊢
          refine hK.out (fun wx => Keeps No wr wx) _ _ (fun _ h => h) (fun e => absurd (show true = false from e) (by decide)) ?_
          clear hK K hS
          intro hS
          refine doneL (by kernel_rfl) ?_ _
          go_wp2_with fail
          go_roundg (8 - (t + 1))
          case measure => have := Hq.out; omega
          case rel =>
            refine ⟨t + 1, F * 256 + y1, by omega, rfl, ?_, Lib.hid Hnx.out.symm, hlt', hbs, hkS.blk hb2r (show ¬ w.heap.size = w.heap.size + 1 by omega), hkr.trans hkS (fun i hi e => by omega)⟩
            have := Hj.out
            have e8 : ((8 - (t + 1) : Nat) : Int) = (j : Int) - 1 := by omega
            first | (rw [e8]; done) | (rw [e8]; go_num)
        · obtain rfl : t = 8 := by omega
          have hF64 : F < 18446744073709551616 := hF
          go_wp2_with fail
          go_meet
          refine ⟨⟨4, 0, ByteArray.empty, F⟩, 9, (by first | rfl | go_num), by omega, hb4r, hb2r, hkr, Lib.hid ⟨wf_of (x := 4) (by decide), wf_of (x := 0) (by decide), hF64⟩, Lib.hid (fun y r h1 h2 h3 h4 h5 => ?_)⟩
          have h6 : y.k = 4 := by rw [h2, ← Hkb.out]; rfl
          have e1 := fromHi_le8 y.f r h3.2.2 8 (by omega)
          rw [← plain_four h6, ← h5, ← HF.out] at e1
          have e2 : F = y.f := by rw [e1]; simp
          rw [e2, plain_four h6, le8_len]
          exact ⟨(right_four h1 h6).1.symm, rfl⟩
    · have e0 : ((kb : Int) == 0) = false := by rw [beq_eq_false_iff_ne]; omega
      have e1 : ((kb : Int) == 1) = false := by rw [beq_eq_false_iff_ne]; omega
      have e2 : ((kb : Int) == 2) = false := by rw [beq_eq_false_iff_ne]; omega
      have e3 : ((kb : Int) == 3) = false := by rw [beq_eq_false_iff_ne]; omega
      have e4 : ((kb : Int) == 4) = false := by rw [beq_eq_false_iff_ne]; omega
      go_wp2_with (refine wpList_storeRow rfl 32 (.tmp 2) (.tmp 23) rfl w.heap.size #[.int .i64 0, .int .i64 0, .string ⟨#[]⟩, .int .u64 0] rfl rfl 32 _ hb2 (by kernel_rfl) rfl (by kernel_rfl) ?_)
      intro w9 hb9 hz9 hk9
      obtain ⟨z0, z1, z2, z3⟩ := row4 hb9
      go_wp2_with fail
      exact bodyPost_ret (v := .tuple #[.agg #[.int .i64 0, .int .i64 0, .string ⟨#[]⟩, .int .u64 0], .int .i64 0]) (by simp [results, Tryz.results35, go_sem, z0, z1, z2, z3]) rfl ⟨Va.zero, 0, rfl, R3.no (fun x r h1 h2 h3 h4 h6 => by have := Hkb.out; omega), hkW.trans hk9 (fun i hi e => by omega)⟩
  case rest =>
    obtain ⟨⟨xk, xn, xs, xf⟩, m, rfl, hmn, hb4x, hb2x, hkx, Hxw, Hx⟩ := hcut
    simp only at hb4x
    obtain ⟨q0, q1, q2, q3⟩ := row4 hb4x
    have hcall := refright_any ⟨xk, xn, xs, xf⟩ Hxw.out wc
    unfold Va.agg at hcall
    simp only at hcall
    obtain ⟨R, hR⟩ : ∃ R, R = rightV ⟨xk, xn, xs, xf⟩ := ⟨_, rfl⟩
    rw [← hR] at hcall
    have HR := Lib.hid hR
    clear hR
    go_wp2_with fail
    refine hcall.mono ?_
    rintro e w7 ⟨rfl, hk7⟩
    clear hcall
    have hb27 := hk7.blk hb2x (not_No _)
    have hb47 := hk7.blk hb4x (not_No _)
    have hk07 := hkx.transNo hk7
    obtain ⟨r0, r1, r2, r3⟩ := row4 hb47
    cases R with
    | false =>
      go_wp2_with (refine wpList_storeRow rfl 32 (.tmp 2) (.tmp 125) rfl w.heap.size #[.int .i64 0, .int .i64 0, .string ⟨#[]⟩, .int .u64 0] rfl rfl 32 _ hb27 (by kernel_rfl) rfl (by kernel_rfl) ?_)
      intro w9 hb9 hz9 hk9
      obtain ⟨z0, z1, z2, z3⟩ := row4 hb9
      go_wp2_with fail
      exact bodyPost_ret (v := .tuple #[.agg #[.int .i64 0, .int .i64 0, .string ⟨#[]⟩, .int .u64 0], .int .i64 0]) (by simp [results, Tryz.results35, go_sem, z0, z1, z2, z3]) rfl ⟨Va.zero, 0, rfl, R3.no (fun x r h1 h2 h3 h4 h5 => by have h6 := (Hx.out x r h1 h2 h3 h4 h5).1; rw [← h6, ← HR.out] at h1; cases h1), hk07.trans hk9 (fun i hi e => by omega)⟩
    | true =>
      go_wp2_with (refine wpList_storeRow rfl 32 (.tmp 2) (.tmp 126) rfl w.heap.size #[.int .i64 xk, .int .i64 xn, .string xs, .int .u64 (xf : Int)] rfl rfl 32 _ hb27 (by kernel_rfl) rfl (by kernel_rfl) ?_)
      intro w9 hb9 hz9 hk9
      obtain ⟨z0, z1, z2, z3⟩ := row4 hb9
      go_wp2_with fail
      exact bodyPost_ret (v := .tuple #[.agg #[.int .i64 xk, .int .i64 xn, .string xs, .int .u64 (xf : Int)], .int .i64 (m : Int)]) (by simp [results, Tryz.results35, go_sem, z0, z1, z2, z3]) rfl ⟨⟨xk, xn, xs, xf⟩, m, rfl, ⟨Hxw.out, by have := Hlen.out; omega, Hx.out⟩, hk07.trans hk9 (fun i hi e => by omega)⟩
end Go.Proofs.YthbipcjgpocpaaaGreat
/- Layer 14, the document's answer: the walk of rest. -/
namespace Go.Proofs.YthbipcjgpocpaaaGreat
open Go.RowKit
set_option linter.unusedSimpArgs false
set_option linter.unusedVariables false
set_option maxRecDepth 100000

theorem plainV_pos {x : Va} (h : rightV x = true) (hw : x.wf) (hk : 1 ≤ x.k ∧ x.k ≤ 4) : 0 < (plainV x).length := by
  rcases (show x.k = 1 ∨ x.k = 2 ∨ x.k = 3 ∨ x.k = 4 by omega) with h1 | h1 | h1 | h1
  · rw [plain1 h1]; exact nat7_pos _ (fold_lt (wf_i64_iff hw.2.1))
  · rw [plain2 h1]; simp
  · rw [plain3 h1, List.length_append]; have := nat7_pos x.s.size (by have := right_size h; omega); omega
  · rw [plain_four h1, le8_len]; omega
theorem R3.step {Kb : UInt8} {b : List UInt8} {v : Va} {m : Nat} (h : R3 Kb b v m) : Step1 (Kb.toNat : Int) (some b) v true (some (b.drop (m - 1))) := by
  intro x r h1 h2 h3 h4 h5
  injection h5 with h5
  obtain ⟨e1, e2⟩ := h.2.2 x r h1 h2 h3 (by rw [h2]; exact h4) h5
  refine ⟨rfl, e1, ?_⟩
  rw [e2, Nat.add_sub_cancel_left, h5, List.drop_left]
theorem R3.bad {Kb : UInt8} {b : List UInt8} {v : Va} {m : Nat} (h : R3 Kb b v m) (hm : m < 2) : Step1 (Kb.toNat : Int) (some b) v false none := by
  intro x r h1 h2 h3 h4 h5
  injection h5 with h5
  obtain ⟨e1, e2⟩ := h.2.2 x r h1 h2 h3 (by rw [h2]; exact h4) h5
  have := plainV_pos h1 h3 (by rw [h2]; exact h4)
  omega

set_option maxHeartbeats 8000000 in
theorem rrest14_any (Kb : UInt8) (cd : Nat) (a : Option Addr) (m c : Nat) (b : List UInt8) (n : Nat) (w : World) (hcd : cd < 256) (hs : Sl w a m c (b.map byteV)) (hm : m ≤ 100000) (hn : n ≤ 256) :
    Calls Tryz.prog 19 #[.int .i64 (Kb.toNat : Int), .int .u8 (cd : Int), .slice a m c, .int .i64 (n : Int)] w (RestPost (Kb.toNat : Int) cd b (n : Int) w) := by
  have hKlt := Kb.toNat_lt
  have hkw : (Lit.int .i64 (Kb.toNat : Int)).wf = true := wf_of (by omega)
  have hnw : (Lit.int .i64 (n : Int)).wf = true := wf_nat n (by omega)
  have hlen : b.length = m := by simpa using hs.len
  have Hlen := Lib.hid hlen
  have hr3 := fun a n c b w hs hn => r3get_any Kb a n c b w hs hn
  have hbyte : byteV Kb = .int .u8 (Kb.toNat : Int) := rfl
  obtain ⟨kb, hkb⟩ : ∃ kb, kb = Kb.toNat := ⟨_, rfl⟩
  rw [← hkb] at hKlt hkw hbyte ⊢
  have Hkb := Lib.hid hkb
  have Hbyte := Lib.hid hbyte
  clear hlen hkb hbyte
  go_enter Tryz.func19, Tryz.ntmps19
  by_cases h0 : cd = 0
  · subst h0
    go_wp2_with fail
    go_loopg [12, 10, 2] n (fun q i bv sv wr => ∃ (j : Nat) (X : List Va) (bt : List UInt8) (at_ : Option Addr) (ct : Nat), j ≤ n ∧ q = n - j ∧ i = .int .i64 (j : Int) ∧ X.length = j ∧ Hid (∀ v ∈ X, v.wf) ∧ Hid (Far (kb : Int) b n j X (some bt)) ∧ bt.length ≤ 100000 ∧ sv = .slice at_ bt.length ct ∧ Sl w at_ bt.length ct (bt.map byteV) ∧ wr.ownsRow w.heap.size 32 4 bv j (X.map Va.cells).flatten ∧ Keeps No w wr)
    case atStart => exact ⟨0, [], b, a, c, Nat.zero_le _, rfl, rfl, rfl, Lib.hid (fun v hv => by simp at hv), Lib.hid (fun F hF hn hb => ⟨by rw [hb.symm]; rfl, by simp⟩), by rw [Hlen.out]; exact hm, by rw [Hlen.out], by rw [Hlen.out]; exact hs, World.ownsRow_nil _ _ _ _, Keeps.refl _ _⟩
    case round =>
      obtain ⟨j, X, bt, at_, ct, hj, hq, rfl, hXl, HXw, HFar, hbt, rfl, hst, hown, hkr⟩ := hrel
      have Hq := Lib.hid hq
      have HXl := Lib.hid hXl
      have hzr := hkr.size
      clear hq hXl
      by_cases hlt : j < n
      · have hstr := hst.kept hkr
        have hkm : (kb : Int) % 256 = (kb : Int) := by omega
        have hkA : Keeps No wr (wr.alloc (.cells #[.int .u8 (kb : Int)] 5)) := (Keeps.refl No wr).alloc _
        have hown1 := owns_one wr wr.heap.size 5 (.int .u8 (kb : Int)) (Nat.le_refl _)
        have hstA := hstr.kept hkA
        go_wp2_with (at_builtin; go_loud (refine app_own rfl _ _ 22 rfl wr.heap.size 5 (.int .u8 0) 1 Tryz.underlying22 byte_infoX rfl (by decide) _ 1 [.int .u8 (kb : Int)] rfl hown1 at_ bt.length ct (bt.map byteV) rfl hstA ?h1 ?hb ?hB ?_))
        case h1 => exact byteV_one _
        case hb => omega
        case hB => exact hkA.size
        intro v2 w2 hown2 hg2
        obtain ⟨a2, c2, rfl, hs2, _⟩ := Sl.ofOwn hown2
        have hk2 : Keeps No wr w2 := hkA.grown hg2 (fun i hi hlt2 => by have := (hown1.lt i hi).1; omega)
        have hs2' : Sl w2 a2 (1 + bt.length) c2 ((Kb :: bt).map byteV) := by
          rw [List.map_cons, Hbyte.out]; exact hs2
        clear hs2 hown2
        go_wp2_with fail
        refine (hr3 a2 _ c2 bt w2 hs2' (by omega)).mono ?_
        rintro e w3 ⟨v, mm, rfl, hR3, hk3⟩
        have hk03 := (hkr.transNo hk2).transNo hk3
        have hown3 := (hk2.transNo hk3).own hown (fun _ _ => not_No _)
        have hmm := hR3.2.1
        have HR3 := Lib.hid hR3
        obtain ⟨vk, vn, vs, vf⟩ := v
        unfold Va.agg
        simp only
        clear hR3 hstA hs2'
        by_cases hm2 : mm < 2
        · go_wp2_with fail
          go_ret2
          exact ⟨none, _, false, rfl, hk03.alloc _, fun _ => HFar.out.bad hlt (by rw [Hkb.out]; exact HR3.out.bad hm2), fun _ => rfl, fun X h => by cases h⟩
        · have hmb : mm - 1 ≤ bt.length := by omega
          obtain ⟨a4, hsl1, hsl2, hs4, _⟩ := hst.from_ (P := Tryz.prog) (T := 22) Tryz.underlying22 (by kernel_rfl) (k := mm - 1) hmb .i64 ((mm : Int) - 1) (by omega)
          have hs4' : Sl w a4 (bt.drop (mm - 1)).length (ct - (mm - 1)) ((bt.drop (mm - 1)).map byteV) := by
            rw [List.map_drop, List.length_drop]; exact hs4
          have hdl : bt.length - (mm - 1) = (bt.drop (mm - 1)).length := by rw [List.length_drop]
          have Hdl := Lib.hid hdl
          clear hs4 hdl
          have hkB : Keeps No w3 ((w3.alloc (.cells #[.int .i64 vk, .int .i64 vn, .string vs, .int .u64 (vf : Int)] 32)).alloc (.cells #[.int .i64 vk, .int .i64 vn, .string vs, .int .u64 (vf : Int)] 32)) := ((Keeps.refl No w3).alloc _).alloc _
          have hownB := hkB.own hown3 (fun _ _ => not_No _)
          have hone := SlK.one (w3.alloc (.cells #[.int .i64 vk, .int .i64 vn, .string vs, .int .u64 (vf : Int)] 32)) (Va.cells ⟨vk, vn, vs, vf⟩) 32 (k := 4) rfl
          rw [show (w3.alloc (.cells #[.int .i64 vk, .int .i64 vn, .string vs, .int .u64 (vf : Int)] 32)).heap.size = w3.heap.size + 1 by simp] at hone
          go_wp2_with (at_builtin; go_loud (refine app_ownK rfl _ _ 25 rfl w.heap.size 32 _ 4 40 Tryz.underlying25 val_info rfl (by decide) (by decide) _ j (X.map Va.cells).flatten rfl hownB _ 1 1 [Va.cells ⟨vk, vn, vs, vf⟩] rfl hone ?h1 ?hb ?hB ?_))
          case h1 => exact vals_one [⟨vk, vn, vs, vf⟩]
          case hb => omega
          case hB => exact (hk03.transNo hkB).size
          intro v7 w7 hown7 hg7 _
          go_wp2_with fail
          go_roundg (n - (j + 1))
          case measure => have := Hq.out; omega
          case rel =>
            refine ⟨j + 1, X ++ [⟨vk, vn, vs, vf⟩], bt.drop (mm - 1), a4, ct - (mm - 1), by omega, rfl, by go_num, by rw [List.length_append, HXl.out]; rfl, Lib.hid (fun y hy => ?_), Lib.hid (HFar.out.step hlt (by rw [Hkb.out]; exact HR3.out.step)), by rw [← Hdl.out]; omega, by rw [← Hdl.out], hs4', ?_, (hk03.transNo hkB).grown hg7 (fun i hi hlt2 => by have := (hownB.lt i hi).1; exact absurd hlt2 (by omega))⟩
            · rcases List.mem_append.1 hy with h | h
              · exact HXw.out y h
              · simp at h; subst h; exact HR3.out.1
            · rw [List.map_append, List.flatten_append]; exact hown7
      · obtain rfl : j = n := by omega
        have hro := restOK0 HFar.out HXl.out HXw.out
        go_wp2_with fail
        go_ret2
        by_cases hbe : bt = []
        · subst hbe
          rw [if_pos rfl] at hro
          refine ⟨some X, _, _, rfl, hkr, fun _ => by rw [Int.toNat_natCast]; exact hro, (fun h => (by cases h)), fun Y hY => ?_⟩
          injection hY with hY; subst hY
          refine ⟨rfl, ?_⟩
          rw [HXl.out]
          exact hown
        · have hbl : bt.length ≠ 0 := fun h => hbe (List.eq_nil_of_length_eq_zero h)
          rw [if_neg (fun h => hbe (by injection h))] at hro
          exact ⟨none, _, _, rfl, hkr, fun _ => by rw [Int.toNat_natCast]; exact hro, fun _ => by simp; exact hbe, fun Y hY => by cases hY⟩
  · have ez : ((cd : Int) == 0) = false := by rw [beq_eq_false_iff_ne]; omega
    go_upto_block 2 with fail
    go_cut [15, 16, 11] (fun tl ts tb wx => ∃ (al : Option Addr) (nl cl : Nat) (L : List Int) (at_ : Option Addr) (ns cs : Nat) (T : List Tx) (B : Bool), tl = .slice al nl cl ∧ Sl wx al nl cl (L.map intV) ∧ nl ≤ 256 ∧ ts = .slice at_ ns cs ∧ Sl wx at_ ns cs (T.map txV) ∧ ns ≤ 256 ∧ tb = .bool B ∧ Keeps No w wx ∧ Hid (Said14 (kb : Int) cd b (n : Int) L T B))
    case first =>
      have ez : ((cd : Int) == 0) = false := by rw [beq_eq_false_iff_ne]; omega
      by_cases h1 : cd = 1
      · subst h1
        go_wp2_with fail
        refine (refRGet_any a m c b (n : Int) w hs (by omega) hnw).mono ?_
        intro e w1 hp
        cases hr : rgetR b (n : Int) with
        | none =>
          obtain ⟨rfl, hk1⟩ := hp.outNo hr
          have HS := Lib.hid (said1n hkw hr)
          clear hr hp
          go_wp2_with fail
          go_meet
          exact ⟨_, _, _, [], _, _, _, [], false, rfl, Sl.none _, by omega, rfl, Sl.none _, by omega, rfl, hk1, HS⟩
        | some l =>
          obtain ⟨a1, c1, rfl, hs1, hk1⟩ := hp.outOk hr
          have HS := Lib.hid (said1 hkw hr)
          clear hr hp
          go_wp2_with fail
          go_meet
          exact ⟨_, _, _, l, _, _, _, [], true, rfl, hs1, HS.out.1, rfl, Sl.none _, by omega, rfl, hk1, Lib.hid HS.out.2⟩
      by_cases h2 : cd = 2
      · subst h2
        go_wp2_with fail
        refine (rbget_any a m c b (n : Int) w hs (by omega) hnw).mono ?_
        intro e w1 hp
        cases hr : bitsGet b (n : Int) with
        | none =>
          obtain ⟨rfl, hk1⟩ := hp.outNo hr
          have HS := Lib.hid (said2n hkw hr)
          clear hr hp
          go_wp2_with fail
          go_meet
          exact ⟨_, _, _, [], _, _, _, [], false, rfl, Sl.none _, by omega, rfl, Sl.none _, by omega, rfl, hk1, HS⟩
        | some l =>
          obtain ⟨a1, c1, rfl, hs1, hk1⟩ := hp.outOk hr
          have HS := Lib.hid (said2 hkw hr)
          clear hr hp
          go_wp2_with fail
          go_meet
          exact ⟨_, _, _, l, _, _, _, [], true, rfl, hs1, HS.out.1, rfl, Sl.none _, by omega, rfl, hk1, Lib.hid HS.out.2⟩
      by_cases h3 : cd = 3
      · subst h3
        go_wp2_with fail
        refine (rdget13_any a m c b (n : Int) w hs (by omega) hnw).mono ?_
        intro e w1 hp
        cases hr : dgetL b (n : Int) with
        | none =>
          obtain ⟨rfl, hk1⟩ := hp.outNo hr
          have HS := Lib.hid (said3n hkw hr)
          clear hr hp
          go_wp2_with fail
          go_meet
          exact ⟨_, _, _, [], _, _, _, [], false, rfl, Sl.none _, by omega, rfl, Sl.none _, by omega, rfl, hk1, HS⟩
        | some l =>
          obtain ⟨a1, c1, rfl, hs1, hk1⟩ := hp.outOk hr
          have HS := Lib.hid (said3 hkw hr)
          clear hr hp
          go_wp2_with fail
          go_meet
          exact ⟨_, _, _, [], _, _, _, l, true, rfl, Sl.none _, by omega, rfl, hs1, HS.out.1, rfl, hk1, Lib.hid HS.out.2⟩
      have e1 : ((cd : Int) == 1) = false := by rw [beq_eq_false_iff_ne]; omega
      have e2 : ((cd : Int) == 2) = false := by rw [beq_eq_false_iff_ne]; omega
      have e3 : ((cd : Int) == 3) = false := by rw [beq_eq_false_iff_ne]; omega
      have hro := restOK_none (k := (kb : Int)) (c := cd) b n (by omega)
      have Hro := Lib.hid hro
      clear h0 h1 h2 h3 hro
      go_wp2_with fail
      go_ret2
      exact ⟨none, _, false, rfl, Keeps.refl _ _, fun _ => by rw [Int.toNat_natCast]; exact Hro.out, fun _ => rfl, fun X h => by cases h⟩
    case rest =>
      obtain ⟨al, nl, cl, L, at_, ns, cs, T, B, rfl, hsL, hnl, rfl, hsT, hns, rfl, hkc, HS⟩ := hcut
      have hlenL : L.length = nl := by simpa using hsL.len
      have hlenT : T.length = ns := by simpa using hsT.len
      have HlenL := Lib.hid hlenL
      have HlenT := Lib.hid hlenT
      have hLr := HS.out.1
      have HLr := Lib.hid hLr
      clear hlenL hlenT hLr
      go_wp2_with fail
      go_loopg [78, 10] nl (fun q i bv wr => ∃ (j : Nat) (X : List Va), j ≤ nl ∧ q = nl - j ∧ i = .int .i64 (j : Int) ∧ Hid (X = (L.take j).map (mkN (kb : Int))) ∧ X.length = j ∧ wr.ownsRow wc.heap.size 32 4 bv j (X.map Va.cells).flatten ∧ Keeps No wc wr)
      case atStart => exact ⟨0, [], Nat.zero_le _, rfl, rfl, Lib.hid rfl, rfl, World.ownsRow_nil _ _ _ _, Keeps.refl _ _⟩
      case round =>
        obtain ⟨j, X, hj, hq, rfl, HX, hXl, hown, hkr⟩ := hrel
        have Hq := Lib.hid hq
        have HXl := Lib.hid hXl
        have hzr := hkr.size
        clear hq hXl
        by_cases hlt : j < nl
        · have hlt' : j < L.length := by rw [HlenL.out]; exact hlt
          have hsr := hsL.kept hkr
          have hix := hsr.ix (P := Tryz.prog) Tryz.underlying63 (by kernel_rfl) hlt .i64
          have hcm := hsr.at_ hlt
          obtain ⟨x, hx⟩ : ∃ x, x = L[j] := ⟨_, rfl⟩
          have hbv : (L.map intV).getD j undef = .int .i64 x := by rw [hx]; simp [hlt', intV]
          rw [hbv] at hcm
          have hxr := HLr.out x (by rw [hx]; exact List.getElem_mem hlt')
          have htk : (L.take (j + 1)).map (mkN (kb : Int)) = (L.take j).map (mkN (kb : Int)) ++ [mkN (kb : Int) x] := by rw [List.take_succ_eq_append_getElem hlt', List.map_append, hx]; rfl
          have Htk := Lib.hid htk
          clear hx hbv htk
          by_cases h4 : kb = 4
          · have hmk : mkN (kb : Int) x = ⟨(kb : Int), 0, ByteArray.empty, u64of x⟩ := by unfold mkN; rw [if_pos (by rw [h4]; rfl)]
            have hu := wrap_u64of hxr
            subst h4
            have Hmk := Lib.hid hmk
            clear hmk
            have hkB : Keeps No wr (wr.alloc (.cells #[.int .i64 4, .int .i64 0, .string ⟨#[]⟩, .int .u64 (u64of x : Int)] 32)) := (Keeps.refl No wr).alloc _
            have hownB := hkB.own hown (fun _ _ => not_No _)
            have hone : SlK (wr.alloc (.cells #[.int .i64 4, .int .i64 0, .string ⟨#[]⟩, .int .u64 (u64of x : Int)] 32)) 4 (some ⟨wr.heap.size, 0, none⟩) 1 1 [Va.cells ⟨4, 0, ⟨#[]⟩, u64of x⟩] := SlK.one wr (Va.cells ⟨4, 0, ⟨#[]⟩, u64of x⟩) 32 rfl
            go_wp2_with (at_builtin; go_loud (refine app_ownK rfl _ _ 25 rfl wc.heap.size 32 _ 4 40 Tryz.underlying25 val_info rfl (by decide) (by decide) _ j (X.map Va.cells).flatten rfl hownB _ 1 1 [Va.cells ⟨4, 0, ⟨#[]⟩, u64of x⟩] rfl hone ?h1 ?hb ?hB ?_))
            case h1 => exact vals_one [⟨4, 0, ⟨#[]⟩, u64of x⟩]
            case hb => omega
            case hB => simp; omega
            intro v7 w7 hown7 hg7 _
            go_wp2_with fail
            go_roundg (nl - (j + 1))
            case measure => have := Hq.out; omega
            case rel =>
              refine ⟨j + 1, X ++ [⟨4, 0, ⟨#[]⟩, u64of x⟩], by omega, rfl, by go_num, Lib.hid (by rw [Htk.out, HX.out, Hmk.out]; rfl), by rw [List.length_append, HXl.out]; rfl, ?_, (hkr.transNo hkB).grown hg7 (fun i hi hlt2 => by have := (hown.lt i hi).1; exact absurd hlt2 (by omega))⟩
              rw [List.map_append, List.flatten_append]; exact hown7
          · have hmk : mkN (kb : Int) x = ⟨(kb : Int), x, ByteArray.empty, 0⟩ := by unfold mkN; rw [if_neg (by omega)]
            have e4 : ((kb : Int) == 4) = false := by rw [beq_eq_false_iff_ne]; omega
            have Hmk := Lib.hid hmk
            clear hmk h4
            have hkB : Keeps No wr (wr.alloc (.cells #[.int .i64 (kb : Int), .int .i64 x, .string ⟨#[]⟩, .int .u64 0] 32)) := (Keeps.refl No wr).alloc _
            have hownB := hkB.own hown (fun _ _ => not_No _)
            have hone : SlK (wr.alloc (.cells #[.int .i64 (kb : Int), .int .i64 x, .string ⟨#[]⟩, .int .u64 0] 32)) 4 (some ⟨wr.heap.size, 0, none⟩) 1 1 [Va.cells ⟨(kb : Int), x, ⟨#[]⟩, 0⟩] := SlK.one wr (Va.cells ⟨(kb : Int), x, ⟨#[]⟩, 0⟩) 32 rfl
            go_wp2_with (at_builtin; go_loud (refine app_ownK rfl _ _ 25 rfl wc.heap.size 32 _ 4 40 Tryz.underlying25 val_info rfl (by decide) (by decide) _ j (X.map Va.cells).flatten rfl hownB _ 1 1 [Va.cells ⟨(kb : Int), x, ⟨#[]⟩, 0⟩] rfl hone ?h1 ?hb ?hB ?_))
            case h1 => exact vals_one [⟨(kb : Int), x, ⟨#[]⟩, 0⟩]
            case hb => omega
            case hB => simp; omega
            intro v7 w7 hown7 hg7 _
            go_wp2_with fail
            go_roundg (nl - (j + 1))
            case measure => have := Hq.out; omega
            case rel =>
              refine ⟨j + 1, X ++ [⟨(kb : Int), x, ⟨#[]⟩, 0⟩], by omega, rfl, by go_num, Lib.hid (by rw [Htk.out, HX.out, Hmk.out]; rfl), by rw [List.length_append, HXl.out]; rfl, ?_, (hkr.transNo hkB).grown hg7 (fun i hi hlt2 => by have := (hown.lt i hi).1; exact absurd hlt2 (by omega))⟩
              rw [List.map_append, List.flatten_append]; exact hown7
        · obtain rfl : j = nl := by omega
          have hXL : X = L.map (mkN (kb : Int)) := by rw [HX.out, List.take_of_length_le (by rw [HlenL.out]; exact Nat.le_refl _)]
          have HXL := Lib.hid hXL
          have hXl := HXl.out
          have HXl2 := Lib.hid hXl
          clear hXL HX hXl
          obtain ⟨W, hW⟩ : ∃ x, x = wr := ⟨_, rfl⟩
          subst hW
          go_wp2_with fail
          go_loopg [99, 10] ns (fun q i bv wr => ∃ (t : Nat) (Y : List Va), t ≤ ns ∧ q = ns - t ∧ i = .int .i64 (t : Int) ∧ Hid (Y = X ++ (T.take t).map (mkT (kb : Int))) ∧ Y.length = j + t ∧ wr.ownsRow wc.heap.size 32 4 bv (j + t) (Y.map Va.cells).flatten ∧ Keeps No wc wr)
          case atStart => exact ⟨0, X, Nat.zero_le _, rfl, rfl, Lib.hid (by simp), HXl2.out, hown, hkr⟩
          case round =>
            obtain ⟨t, Y, ht, hq2, rfl, HY, hYl, hown2, hkr2⟩ := hrel
            have Hq2 := Lib.hid hq2
            have HYl := Lib.hid hYl
            have hzr2 := hkr2.size
            clear hq2 hYl
            by_cases hlt2 : t < ns
            · have hlt' : t < T.length := by rw [HlenT.out]; exact hlt2
              have hsr := hsT.kept hkr2
              have hix := hsr.ix (P := Tryz.prog) Tryz.underlying64 (by kernel_rfl) hlt2 .i64
              have hcm := hsr.at_ hlt2
              obtain ⟨x, hx⟩ : ∃ x, x = T[t] := ⟨_, rfl⟩
              have hbv : (T.map txV).getD t undef = .string ⟨x.toArray⟩ := by rw [hx]; simp [hlt', txV]
              rw [hbv] at hcm
              have htk : (T.take (t + 1)).map (mkT (kb : Int)) = (T.take t).map (mkT (kb : Int)) ++ [mkT (kb : Int) x] := by rw [List.take_succ_eq_append_getElem hlt', List.map_append, hx]; rfl
              have Htk := Lib.hid htk
              clear hx hbv htk
              have hkB : Keeps No wr (wr.alloc (.cells #[.int .i64 (kb : Int), .int .i64 0, .string ⟨x.toArray⟩, .int .u64 0] 32)) := (Keeps.refl No wr).alloc _
              have hownB := hkB.own hown2 (fun _ _ => not_No _)
              go_wp2_with (at_builtin; go_loud (refine app_ownK rfl _ _ 25 rfl wc.heap.size 32 _ 4 40 Tryz.underlying25 val_info rfl (by decide) (by decide) _ (j + t) (Y.map Va.cells).flatten rfl hownB _ 1 1 [Va.cells (mkT (kb : Int) x)] rfl (SlK.one _ (Va.cells (mkT (kb : Int) x)) _ rfl) ?h1 ?hb ?hB ?_))
              case h1 => exact vals_one [mkT (kb : Int) x]
              case hb => omega
              case hB => simp; omega
              intro v7 w7 hown7 hg7 _
              go_wp2_with fail
              go_roundg (ns - (t + 1))
              case measure => have := Hq2.out; omega
              case rel =>
                refine ⟨t + 1, Y ++ [mkT (kb : Int) x], by omega, rfl, by go_num, Lib.hid (by rw [Htk.out, HY.out, List.append_assoc]), by rw [List.length_append, HYl.out]; rfl, ?_, (hkr2.transNo hkB).grown hg7 (fun i hi hlt2 => by have := (hown2.lt i hi).1; exact absurd hlt2 (by omega))⟩
                rw [List.map_append, List.flatten_append]; exact hown7
            · obtain rfl : t = ns := by omega
              go_wp2_with fail
              go_ret2
              have hYT : Y = L.map (mkN (kb : Int)) ++ T.map (mkT (kb : Int)) := by rw [HY.out, HXL.out, List.take_of_length_le (by rw [HlenT.out]; exact Nat.le_refl _)]
              have hsd := HS.out.2
              rw [← hYT] at hsd
              cases B with
              | false => exact ⟨none, _, _, rfl, hkc.transNo hkr2, hsd, fun _ => rfl, fun Z hZ => by cases hZ⟩
              | true =>
                refine ⟨some Y, _, _, rfl, hkc.transNo hkr2, hsd, (fun h => (by cases h)), fun Z hZ => ?_⟩
                injection hZ with hZ; subst hZ
                refine ⟨rfl, ?_⟩
                rw [HYl.out]
                exact own_le hown2 hkc.size
end Go.Proofs.YthbipcjgpocpaaaGreat
/- Layer 14, the document's answer: the walk of Get. -/
namespace Go.Proofs.YthbipcjgpocpaaaGreat
open Go.RowKit
set_option linter.unusedSimpArgs false
set_option linter.unusedVariables false
set_option maxRecDepth 100000

theorem col_parse2 {k : Int} {L : List Va} {b : List UInt8} (h : rightC k L = true) (hb : colPut k L = b) :
    (readP b).1 = L.length ∧ (readP b).2 = (nat7 L.length).length ∧ 0 < (readP b).2 ∧ L.length ≤ 256 ∧ (nat7 L.length).length + 2 + (L.length + 7) / 8 + (bestC k L).length = b.length ∧ ((b.getD (readP b).2 0).toNat : Int) = k ∧ (b.getD ((readP b).2 + 1) 0).toNat = codeC (restC k (fullC L)) := by
  have hk := (rightC_iff.1 h).1
  have hp := nat7_pos L.length (by omega)
  have hb2 : b = nat7 L.length ++ (UInt8.ofNat k.toNat :: UInt8.ofNat (codeC (restC k (fullC L))) :: (putTo (nullsC L) (nullsC L).length ++ bestC k L)) := by
    rw [← hb]; unfold colPut headC; simp
  have hr : readP b = (L.length, (nat7 L.length).length) := by rw [hb2]; exact readP_put _ _ (by omega)
  rw [hr]
  refine ⟨rfl, rfl, hp, hk.2.2, by rw [← hb]; exact col_size.symm, ?_, ?_⟩
  · simp only
    rw [hb2, getD_app_r _ _ _ _ (Nat.le_refl _), Nat.sub_self]
    exact kind_byte ⟨hk.1, hk.2.1⟩
  · simp only
    rw [hb2, getD_app_r _ _ _ _ (by omega), Nat.add_sub_cancel_left]
    exact code_byte _
theorem refget_q (a : Option Addr) (m c : Nat) (b : List UInt8) (n : Int) (w : World) (hs : Sl w a m c (b.map byteV)) (hm : m ≤ 17592186044415) (hn : (Lit.int .i64 n).wf = true) :
    Calls Tryz.prog 18 #[.slice a m c, .int .i64 n] w fun e w' => ∃ (an : Option Addr) (cn : Nat) (l : List Bool) (B : Bool), e = .returned (.tuple #[.slice an l.length cn, .bool B]) ∧ Sl w' an l.length cn (l.map Value.bool) ∧ Keeps No w w' ∧ (B = true → getBits b n = some l) ∧ (B = false → getBits b n = none ∧ l = []) := by
  refine (refGet_any a m c b n w hs hm hn).mono ?_
  intro e w1 hp
  rw [← getBits_ref] at hp
  unfold RefGetPost at hp
  cases hr : getBits b n with
  | none =>
    rw [hr] at hp
    obtain ⟨rfl, hk⟩ := hp
    exact ⟨_, _, [], false, rfl, Sl.none _, hk, (fun h => (by cases h)), fun _ => ⟨rfl, rfl⟩⟩
  | some l =>
    rw [hr] at hp
    obtain ⟨a1, c1, rfl, hs1, hk⟩ := hp
    exact ⟨a1, c1, l, true, rfl, hs1, hk, fun _ => rfl, (fun h => (by cases h))⟩

set_option maxHeartbeats 8000000 in
theorem rcolget_any (a : Option Addr) (m c : Nat) (b : List UInt8) (w : World) (hs : Sl w a m c (b.map byteV)) (hm : m ≤ 100000) :
    Calls Tryz.prog 6 #[.slice a m c] w (ColGetPost b w) := by
  have hlen : b.length = m := by simpa using hs.len
  have Hlen := Lib.hid hlen
  clear hlen
  have hcall := read_any a m c b w hs (by omega)
  have hVlt := readP_lt b
  have hKle := readP_le b
  rw [Hlen.out] at hKle
  have hparse := fun k L h hb => col_parse2 (k := k) (L := L) (b := b) h hb
  generalize (readP b).1 = V at hcall hVlt hparse
  generalize (readP b).2 = K at hcall hKle hparse
  have Hparse := Lib.hid hparse
  clear hparse
  go_enter Tryz.func6, Tryz.ntmps6
  go_wp2_with fail
  refine hcall.mono ?_
  rintro e w1 ⟨rfl, rfl⟩
  clear hcall
  rcases Nat.eq_zero_or_pos K with h0 | hpos
  · subst h0
    go_wp2_with fail
    go_ret3
    exact ColGetPost.no (fun k L h1 h2 h3 => by have := (Hparse.out k L h1 h3).2.2.1; omega) (Keeps.refl _ _)
  have ek : ((K : Int) == 0) = false := by rw [beq_eq_false_iff_ne]; omega
  by_cases hbig : 256 < V
  · go_wp2_with fail
    go_ret3
    exact ColGetPost.no (fun k L h1 h2 h3 => by obtain ⟨p1, _, _, p4, _⟩ := Hparse.out k L h1 h3; omega) (Keeps.refl _ _)
  by_cases hfit : m < K + 2
  · go_wp2_with fail
    go_ret3
    exact ColGetPost.no (fun k L h1 h2 h3 => by obtain ⟨p1, p2, p3, p4, p5, _⟩ := Hparse.out k L h1 h3; have := Hlen.out; omega) (Keeps.refl _ _)
  have hKm : K < m := by omega
  have hKm1 : K + 1 < m := by omega
  have hix := hs.ix (P := Tryz.prog) Tryz.underlying22 (by kernel_rfl) hKm .i64
  have hix1 := hs.ixz (P := Tryz.prog) Tryz.underlying22 (by kernel_rfl) ((K : Int) + 1) (i := K + 1) (by omega) hKm1 .i64
  have hc0 := hs.at_ hKm
  have hc1 := hs.at_ hKm1
  obtain ⟨Kb, hKb⟩ : ∃ Kb, Kb = b.getD K 0 := ⟨_, rfl⟩
  obtain ⟨Cb, hCb⟩ : ∃ Cb, Cb = b.getD (K + 1) 0 := ⟨_, rfl⟩
  have g0 : (b.map byteV).getD K undef = .int .u8 (Kb.toNat : Int) := by
    have : K < b.length := by rw [Hlen.out]; exact hKm
    rw [hKb]; simp [this, byteV]
  have g1 : (b.map byteV).getD (K + 1) undef = .int .u8 (Cb.toNat : Int) := by
    have : K + 1 < b.length := by rw [Hlen.out]; exact hKm1
    rw [hCb]; simp [this, byteV]
  rw [g0] at hc0
  rw [g1] at hc1
  generalize (a.getD default).add (K + 1) = p1 at hix1 hc1
  have hKlt := Kb.toNat_lt
  have hClt := Cb.toNat_lt
  have HKb := Lib.hid hKb
  have HCb := Lib.hid hCb
  clear hKb hCb g0 g1
  go_wp2_with fail
  go_loopg [10, 9] ((V + 7) / 8) (fun q i av wr => ∃ (t A : Nat), t ≤ (V + 7) / 8 ∧ q = (V + 7) / 8 - t ∧ i = .int .u64 ((8 * t : Nat) : Int) ∧ av = .int .i64 (A : Int) ∧ A ≤ K + 2 + t ∧ K + 2 + t ≤ A ∧ wr = w)
  case atStart => exact ⟨0, K + 2, Nat.zero_le _, rfl, rfl, by go_num, by omega, by omega, rfl⟩
  case round =>
    obtain ⟨t, A, ht, hq, rfl, rfl, hA1, hA2, hwr⟩ := hrel
    subst hwr
    have Hq := Lib.hid hq
    clear hq
    by_cases hlt : 8 * t < V
    · go_wp2_with fail
      go_roundg ((V + 7) / 8 - (t + 1))
      case measure => have := Hq.out; omega
      case rel => exact ⟨t + 1, A + 1, by omega, rfl, by go_num, by go_num, by omega, by omega, rfl⟩
    have ht2 : t = (V + 7) / 8 := by omega
    have Ht := Lib.hid ht2
    have ht33 : t ≤ 33 := by omega
    clear ht2 ht
    by_cases hfit2 : m < A
    · go_wp2_with fail
      go_ret3
      exact ColGetPost.no (fun k L h1 h2 h3 => by obtain ⟨p1, p2, p3, p4, p5, _⟩ := Hparse.out k L h1 h3; have := Hlen.out; have := Ht.out; omega) (Keeps.refl _ _)
    obtain ⟨am, hrm1, hrm2, hsm⟩ := hs.mid (P := Tryz.prog) (T := 22) Tryz.underlying22 (by kernel_rfl) (lo := K + 2) (hi := A) (by omega) (by omega) .i64 .i64 ((K : Int) + 2) (A : Int) (by omega) rfl
    obtain ⟨Z, hZ⟩ : ∃ Z, Z = A - (K + 2) := ⟨_, rfl⟩
    rw [← hZ] at hrm1 hrm2 hsm
    have hZ33 : Z ≤ 33 := by omega
    have hZt : Z = t := by omega
    have HZt := Lib.hid hZt
    obtain ⟨nb, hnb⟩ : ∃ nb, nb = (b.drop (K + 2)).take Z := ⟨_, rfl⟩
    have hsm' : Sl wr am Z (c - (K + 2)) (nb.map byteV) := by rw [hnb, List.map_take, List.map_drop]; exact hsm
    have Hnb := Lib.hid hnb
    clear hsm hnb hZ hZt
    have hVw : (Lit.int .i64 (V : Int)).wf = true := wf_nat V (by omega)
    go_wp2_with fail
    refine (refget_q am Z (c - (K + 2)) nb (V : Int) wr hsm' (by omega) hVw).mono ?_
    rintro e w6 ⟨an, cn, l, B4, rfl, hsl, hk6, hB4, hB4'⟩
    have HB4 := Lib.hid hB4
    have HB4' := Lib.hid hB4'
    have hs6 := hs.kept hk6
    clear hB4 hB4' hsm'
    have hnbits : ∀ k L, rightC k L = true → colPut k L = b → getBits nb (V : Int) = some (nullsC L) ∧ b.drop A = bestC k L ∧ (Kb.toNat : Int) = k ∧ Cb.toNat = codeC (restC k (fullC L)) := by
      intro k L h1 h3
      obtain ⟨p1, p2, p3, p4, p5, p6, p7⟩ := Hparse.out k L h1 h3
      have hAe : A = (nat7 L.length).length + 2 + (L.length + 7) / 8 := by have := Ht.out; omega
      have q1 : nb = putTo (nullsC L) (nullsC L).length := by
        rw [Hnb.out, HZt.out, Ht.out, p1, p2, ← h3]; exact col_nulls
      refine ⟨?_, by rw [hAe, ← h3]; exact col_rest, by rw [HKb.out]; exact p6, by rw [HCb.out]; exact p7⟩
      have := getBits_put (nullsC L)
      rw [← q1, nullsC_len, ← p1] at this
      exact this
    have Hnbits := Lib.hid hnbits
    clear hnbits
    cases B4 with
    | false =>
      go_wp2_with fail
      go_ret3
      exact ColGetPost.no (fun k L h1 h2 h3 => by have := (Hnbits.out k L h1 h3).1; rw [(HB4'.out (by first | rfl | trivial)).1] at this; cases this) hk6
    | true =>
    have hbits := HB4.out (by first | rfl | trivial)
    have hll := getBits_len hbits
    have Hll := Lib.hid hll
    have hl256 : l.length ≤ 256 := by omega
    have hlN : ∀ k L, rightC k L = true → colPut k L = b → l = nullsC L := fun k L h1 h3 => by
      have := (Hnbits.out k L h1 h3).1
      rw [hbits] at this
      injection this
    have HlN := Lib.hid hlN
    clear hbits hll hlN HB4 HB4'
    go_wp2_with fail
    go_loopg [77, 13] l.length (fun q i fv wr => ∃ (j N : Nat), j ≤ l.length ∧ q = l.length - j ∧ i = .int .i64 (j : Int) ∧ fv = .int .i64 (N : Int) ∧ Hid (N = (l.take j).count false) ∧ N ≤ j ∧ wr = w6)
    case atStart => exact ⟨0, 0, Nat.zero_le _, rfl, rfl, rfl, Lib.hid rfl, Nat.le_refl _, rfl⟩
    case round =>
      obtain ⟨j, N, hj, hq2, rfl, rfl, HN, hNj, hwr⟩ := hrel
      subst hwr
      have Hq2 := Lib.hid hq2
      clear hq2
      by_cases hlt2 : j < l.length
      · have hixl := hsl.ix (P := Tryz.prog) Tryz.underlying43 (by kernel_rfl) hlt2 .i64
        have hcm := hsl.at_ hlt2
        obtain ⟨x, hx⟩ : ∃ x, x = l[j] := ⟨_, rfl⟩
        have hbv : (l.map Value.bool).getD j undef = .bool x := by rw [hx]; simp [hlt2]
        rw [hbv] at hcm
        have htk : (l.take (j + 1)).count false = (l.take j).count false + (if x = false then 1 else 0) := by
          rw [List.take_succ_eq_append_getElem hlt2, List.count_append, ← hx]
          cases x <;> rfl
        have Htk := Lib.hid htk
        clear hbv hx htk
        cases x with
        | true =>
          go_wp2_with fail
          go_roundg (l.length - (j + 1))
          case measure => have := Hq2.out; omega
          case rel => exact ⟨j + 1, N, by omega, rfl, by go_num, rfl, Lib.hid (by rw [Htk.out, HN.out]; rfl), by omega, rfl⟩
        | false =>
          go_wp2_with fail
          go_roundg (l.length - (j + 1))
          case measure => have := Hq2.out; omega
          case rel => exact ⟨j + 1, N + 1, by omega, rfl, by go_num, by go_num, Lib.hid (by rw [Htk.out, HN.out]; rfl), by omega, rfl⟩
      obtain rfl : j = l.length := by omega
      have hNc : N = l.count false := by rw [HN.out, List.take_length]
      have HNc := Lib.hid hNc
      clear hNc HN
      obtain ⟨an2, hrf1, hrf2, hsf, _⟩ := hs6.from_ (P := Tryz.prog) (T := 22) Tryz.underlying22 (by kernel_rfl) (k := A) (by omega) .i64 (A : Int) rfl
      have hsf' : Sl wr an2 (m - A) (c - A) ((b.drop A).map byteV) := by rw [List.map_drop]; exact hsf
      clear hsf
      go_wp2_with fail
      refine (rrest14_any Kb Cb.toNat an2 (m - A) (c - A) (b.drop A) N wr hClt hsf' (by omega) (by omega)).mono ?_
      rintro e w8 ⟨r, v8, B5, rfl, hk8, hro, hrn, hrs⟩
      have hk08 := hk6.transNo hk8
      have hro2 := hro (by omega)
      rw [Int.toNat_natCast] at hro2
      have hfin : ∀ k L, rightC k L = true → (∀ v ∈ L, v.wf) → colPut k L = b → l = nullsC L ∧ r = some (fullC L) ∧ (Kb.toNat : Int) = k := by
        intro k L h1 h2 h3
        obtain ⟨_, q2, q3, q4⟩ := Hnbits.out k L h1 h3
        have q5 := HlN.out k L h1 h3
        refine ⟨q5, ?_, q3⟩
        have q6 := count_nulls L
        have q7 := count_split (nullsC L)
        rw [nullsC_len] at q7
        refine hro2.2 (fullC L) (by rw [q3]; exact fu_of h1 h2) (by have := HNc.out; rw [q5] at this; omega) ?_
        rw [q3, q4, q2]
        exact (bestC_ok k L).1
      have Hfin := Lib.hid hfin
      have Hro := Lib.hid hro2.1
      clear hro hro2 hfin hsf'
      cases B5 with
      | false =>
        have hrn' : r = none := by
          cases r with
          | none => rfl
          | some X => have := (hrs X rfl).1; cases this
        have Hrn := Lib.hid hrn'
        clear hrn' hrn hrs
        go_wp2_with fail
        go_ret3
        exact ColGetPost.no (fun k L h1 h2 h3 => by have := (Hfin.out k L h1 h2 h3).2.1; rw [Hrn.out] at this; cases this) hk08
      | true =>
      cases r with
      | none => have := hrn rfl; cases this
      | some X =>
      obtain ⟨hXl, hXw⟩ := Hro.out X rfl
      have howx := (hrs X rfl).2
      obtain ⟨ax, cx, rfl, hsX, _⟩ := SlK.ofOwn (k := 4) (by decide) (vals_wide X) howx
      have HXw := Lib.hid hXw
      have HXl := Lib.hid hXl
      have hslw := hsl.kept hk8
      clear hrn hrs howx hXw hXl
      go_wp2_with fail
      go_loopg [100, 17, 18] l.length (fun q i ov pv wr => ∃ (t p : Nat) (O : List Va), t ≤ l.length ∧ q = l.length - t ∧ i = .int .i64 (t : Int) ∧ Hid (O ++ merge (l.drop t) (X.drop p) = merge l X) ∧ Hid ((l.drop t).count false = X.length - p) ∧ p ≤ X.length ∧ p ≤ t ∧ Hid (∀ v ∈ O, v.wf) ∧ O.length = t ∧
        pv = .int .i64 (p : Int) ∧ wr.ownsRow w8.heap.size 32 4 ov t (O.map Va.cells).flatten ∧ Keeps No w8 wr)
      case atStart => exact ⟨0, 0, [], Nat.zero_le _, rfl, rfl, Lib.hid (by simp), Lib.hid (by rw [HXl.out, HNc.out]; simp), Nat.zero_le _, Nat.le_refl _, Lib.hid (fun v hv => by simp at hv), rfl, rfl, World.ownsRow_nil _ _ _ _, Keeps.refl _ _⟩
      case round =>
        obtain ⟨t, p, O, ht, hq3, rfl, HM, HC, hp, hpt, HOw, hOl, rfl, hown, hkr⟩ := hrel
        have Hq3 := Lib.hid hq3
        have HOl := Lib.hid hOl
        have hzr := hkr.size
        clear hq3 hOl
        by_cases hlt3 : t < l.length
        · have hslr := hslw.kept hkr
          have hixl := hslr.ix (P := Tryz.prog) Tryz.underlying43 (by kernel_rfl) hlt3 .i64
          have hcm := hslr.at_ hlt3
          obtain ⟨x, hx⟩ : ∃ x, x = l[t] := ⟨_, rfl⟩
          have hbv : (l.map Value.bool).getD t undef = .bool x := by rw [hx]; simp [hlt3]
          rw [hbv] at hcm
          have hdr : l.drop t = x :: l.drop (t + 1) := by rw [List.drop_eq_getElem_cons hlt3, hx]
          have Hdr := Lib.hid hdr
          have Hx := Lib.hid hx
          clear hbv hdr hx
          cases x with
          | true =>
            have hkB : Keeps No wr (wr.alloc (.cells #[.int .i64 0, .int .i64 0, .string ⟨#[]⟩, .int .u64 0] 32)) := (Keeps.refl No wr).alloc _
            have hownB := hkB.own hown (fun _ _ => not_No _)
            go_wp2_with (at_builtin; go_loud (refine app_ownK rfl _ _ 25 rfl w8.heap.size 32 _ 4 40 Tryz.underlying25 val_info rfl (by decide) (by decide) _ t (O.map Va.cells).flatten rfl hownB _ 1 1 [Va.cells Va.zero] rfl (SlK.one _ (Va.cells Va.zero) _ rfl) ?h1 ?hb ?hB ?_))
            case h1 => exact vals_one [Va.zero]
            case hb => omega
            case hB => simp; omega
            intro v7 w7 hown7 hg7 _
            go_wp2_with fail
            go_roundg (l.length - (t + 1))
            case measure => have := Hq3.out; omega
            case rel =>
              refine ⟨t + 1, p, O ++ [Va.zero], by omega, rfl, by go_num, Lib.hid ?_, Lib.hid ?_, hp, by omega, Lib.hid (fun v hv => ?_), by rw [List.length_append, HOl.out]; rfl, rfl, ?_, (hkr.transNo hkB).grown hg7 (fun i hi hlt2 => by have := (hown.lt i hi).1; exact absurd hlt2 (by omega))⟩
              · rw [← HM.out, merge_true l _ hlt3 Hx.out.symm, List.append_assoc]; rfl
              · have := HC.out; rw [Hdr.out] at this; simpa using this
              · rcases List.mem_append.1 hv with h | h
                · exact HOw.out v h
                · simp at h; subst h; exact zero_wf
              · rw [List.map_append, List.flatten_append]; exact hown7
          | false =>
            have hpX : p < X.length := by have := HC.out; rw [Hdr.out] at this; simp at this; omega
            have hsyr := hsX.kept hkr
            have hixy := hsyr.ix (P := Tryz.prog) Tryz.underlying25 val_size hpX .i64
            obtain ⟨hldy, _⟩ := hsyr.load (P := Tryz.prog) (ty := 32) Tryz.underlying32 rfl val_size hpX
            rw [vget X hpX] at hldy
            obtain ⟨y, hy⟩ : ∃ y, y = X.getD p Va.zero := ⟨_, rfl⟩
            rw [← hy] at hldy
            have Hy := Lib.hid hy
            clear hy
            obtain ⟨yk, yn, ys, yf⟩ := y
            unfold Va.cells at hldy
            simp only at hldy
            have hkB : Keeps No wr (wr.alloc (.cells #[.int .i64 yk, .int .i64 yn, .string ys, .int .u64 (yf : Int)] 32)) := (Keeps.refl No wr).alloc _
            have hownB := hkB.own hown (fun _ _ => not_No _)
            have hone : SlK (wr.alloc (.cells #[.int .i64 yk, .int .i64 yn, .string ys, .int .u64 (yf : Int)] 32)) 4 (some ⟨wr.heap.size, 0, none⟩) 1 1 [Va.cells ⟨yk, yn, ys, yf⟩] := SlK.one wr (Va.cells ⟨yk, yn, ys, yf⟩) 32 rfl
            go_wp2_with (first | (refine wpList_loadV (op := ⟨some 113, _, _, _, _, _⟩) rfl 32 (.tmp 112) rfl _ rfl _ hldy ?_) | (at_builtin; go_loud (refine app_ownK rfl _ _ 25 rfl w8.heap.size 32 _ 4 40 Tryz.underlying25 val_info rfl (by decide) (by decide) _ t (O.map Va.cells).flatten rfl hownB _ 1 1 [Va.cells ⟨yk, yn, ys, yf⟩] rfl hone ?h1 ?hb ?hB ?_)))
            case h1 => exact vals_one [⟨yk, yn, ys, yf⟩]
            case hb => omega
            case hB => simp; omega
            intro v7 w7 hown7 hg7 _
            go_wp2_with fail
            go_roundg (l.length - (t + 1))
            case measure => have := Hq3.out; omega
            case rel =>
              refine ⟨t + 1, p + 1, O ++ [⟨yk, yn, ys, yf⟩], by omega, rfl, by go_num, Lib.hid ?_, Lib.hid ?_, by omega, by omega, Lib.hid (fun v hv => ?_), by rw [List.length_append, HOl.out]; rfl, by go_num, ?_, (hkr.transNo hkB).grown hg7 (fun i hi hlt2 => by have := (hown.lt i hi).1; exact absurd hlt2 (by omega))⟩
              · rw [← HM.out, merge_false l _ hlt3 Hx.out.symm hpX, ← Hy.out, List.append_assoc]; rfl
              · have := HC.out; rw [Hdr.out] at this; simp at this; omega
              · rcases List.mem_append.1 hv with h | h
                · exact HOw.out v h
                · simp at h; subst h; rw [Hy.out]; refine HXw.out _ ?_; simp [hpX]
              · rw [List.map_append, List.flatten_append]; exact hown7
        obtain rfl : t = l.length := by omega
        have hOX : O = merge l X := by have := HM.out; rw [List.drop_length] at this; simpa [merge] using this
        have HOX := Lib.hid hOX
        obtain ⟨aO, cO, rfl, hsO, _⟩ := SlK.ofOwn (k := 4) (by decide) (vals_wide O) hown
        have hk09 := hk08.transNo hkr
        have hs9 := hs.kept hk09
        clear hOX HM HC
        have hmg : ∀ k L, rightC k L = true → (∀ v ∈ L, v.wf) → colPut k L = b → O = L ∧ (Kb.toNat : Int) = k := by
          intro k L h1 h2 h3
          obtain ⟨q2, q3, q4⟩ := Hfin.out k L h1 h2 h3
          injection q3 with q3
          refine ⟨?_, q4⟩
          rw [HOX.out, q2, q3]
          exact merge_full L (fun v hv => ((rightC_iff.1 h1).2 v hv).1)
        have Hmg := Lib.hid hmg
        clear hmg
        cases hr9 : rightC (Kb.toNat : Int) O with
        | false =>
          have Hr9 := Lib.hid hr9
          clear hr9
          go_wp2_with fail
          refine wp_region_held_drew (S := fun wx => Keeps No wr wx) (by kernel_rfl) ((Keeps.refl No wr).drew) (fun hS => ?_)
          refine tk (i := 0) (oi := ⟨some 119, _, _, _, _, _⟩) (v := ?_) rfl (by kernel_rfl) (fun _ _ _ h => h) (by assumption) (by rfl) (fun w hSw => ?_) ?_; rotate_left; (focus (first | (go_simp; done) | (go_simp; with_reducible rfl))); simp only [Act.put, List.setIfInBounds_toArray, List.set_cons_zero, List.set_cons_succ]
          refine tk (i := 1) (oi := ⟨some 120, _, _, _, _, _⟩) (v := ?_) rfl (by kernel_rfl) (fun _ _ _ h => h) (by assumption) (by rfl) (fun w hSw => ?_) ?_; rotate_left; (focus (first | (go_simp; done) | (go_simp; with_reducible rfl))); simp only [Act.put, List.setIfInBounds_toArray, List.set_cons_zero, List.set_cons_succ]
          refine alone (i := 2) (oi := ⟨some 121, _, _, _, _, _⟩) rfl (by kernel_rfl) (by rfl) (fun K hK => ?_); go_simp
          refine (rright14_any (Kb.toNat : Int) aO _ cO O _ (hsO.kept hS) HOw.out).mono ?_
          rintro e w10 ⟨rfl, hk10⟩
          rw [Hr9.out]
          have hkz := hS.transNo hk10
          refine hK.out (fun wx => Keeps No wr wx) _ _ (fun _ h => h) (hkz) ?_
          clear hK K hS
          intro hS
          refine tk (i := 3) (oi := ⟨some 122, _, _, _, _, _⟩) (v := ?_) rfl (by kernel_rfl) (fun _ _ _ h => h) (by assumption) (by rfl) (fun w hSw => ?_) ?_; rotate_left; (focus (first | (go_simp; done) | (go_simp; with_reducible rfl))); simp only [Act.put, List.setIfInBounds_toArray, List.set_cons_zero, List.set_cons_succ]
          refine tk (i := 4) (oi := ⟨some 123, _, _, _, _, _⟩) (v := ?_) rfl (by kernel_rfl) (fun _ _ _ h => h) (by assumption) (by rfl) (fun w hSw => ?_) ?_; rotate_left; (focus (first | (go_simp; done) | (go_simp; with_reducible rfl))); simp only [Act.put, List.setIfInBounds_toArray, List.set_cons_zero, List.set_cons_succ]
          refine tkNot (i := 5) (oi := ⟨some 124, _, _, _, _, _⟩) rfl (by kernel_rfl) (fun _ _ _ h => h) (by assumption) (by rfl) ?_; simp only [Act.put, List.setIfInBounds_toArray, List.set_cons_zero, List.set_cons_succ]
          refine tkNot (i := 6) (oi := ⟨some 125, _, _, _, _, _⟩) rfl (by kernel_rfl) (fun _ _ _ h => h) (by assumption) (by rfl) ?_; simp only [Act.put, List.setIfInBounds_toArray, List.set_cons_zero, List.set_cons_succ]
          refine tkNot (i := 7) (oi := ⟨some 126, _, _, _, _, _⟩) rfl (by kernel_rfl) (fun _ _ _ h => h) (by assumption) (by rfl) ?_; simp only [Act.put, List.setIfInBounds_toArray, List.set_cons_zero, List.set_cons_succ]
          refine tkNot (i := 8) (oi := ⟨some 127, _, _, _, _, _⟩) rfl (by kernel_rfl) (fun _ _ _ h => h) (by assumption) (by rfl) ?_; simp only [Act.put, List.setIfInBounds_toArray, List.set_cons_zero, List.set_cons_succ]
          refine tkNot (i := 9) (oi := ⟨some 128, _, _, _, _, _⟩) rfl (by kernel_rfl) (fun _ _ _ h => h) (by assumption) (by rfl) ?_; simp only [Act.put, List.setIfInBounds_toArray, List.set_cons_zero, List.set_cons_succ]
          refine tkNot (i := 10) (oi := ⟨some 129, _, _, _, _, _⟩) rfl (by kernel_rfl) (fun _ _ _ h => h) (by assumption) (by rfl) ?_; simp only [Act.put, List.setIfInBounds_toArray, List.set_cons_zero, List.set_cons_succ]
          refine tkNot (i := 11) (oi := ⟨some 130, _, _, _, _, _⟩) rfl (by kernel_rfl) (fun _ _ _ h => h) (by assumption) (by rfl) ?_; simp only [Act.put, List.setIfInBounds_toArray, List.set_cons_zero, List.set_cons_succ]
          refine tk (i := 12) (oi := ⟨some 131, _, _, _, _, _⟩) (v := ?_) rfl (by kernel_rfl) (fun _ _ _ h => h) (by assumption) (by rfl) (fun w hSw => ?_) ?_; rotate_left; (focus (first | (go_simp; done) | (go_simp; with_reducible rfl))); simp only [Act.put, List.setIfInBounds_toArray, List.set_cons_zero, List.set_cons_succ]
          refine wpAnyH_done (by kernel_rfl) ?_ _
          go_wp2_with fail
          go_ret3
          exact ColGetPost.no (fun k L h1 h2 h3 => by
            obtain ⟨q1, q2⟩ := Hmg.out k L h1 h2 h3
            have := Hr9.out
            rw [q1, q2, h1] at this
            cases this) (hk09.transNo hkz)
        | true =>
          have Hr9 := Lib.hid hr9
          clear hr9
          obtain ⟨D, hD⟩ : ∃ D, D = colPut (Kb.toNat : Int) O := ⟨_, rfl⟩
          have HD := Lib.hid hD
          have hput := fun wx hs => rcolput_any (Kb.toNat : Int) aO l.length cO O wx hs HOw.out Hr9.out
          simp only [← hD] at hput
          have hseq := str_eq D b
          obtain ⟨E, hE⟩ : ∃ E, E = decide (D = b) := ⟨_, rfl⟩
          rw [← hE] at hseq
          have hsne : (D == b) = E := by rw [hE]; by_cases h : D = b <;> simp [h]
          have HE := Lib.hid hE
          have Hsne := Lib.hid hsne
          clear hseq hsne
          clear hD hE
          have hstrB := fun wx (hx : Keeps No wr wx) => (hs9.kept hx).str (P := Tryz.prog) 22 9 _ Tryz.underlying22 Tryz.underlying5 Tryz.underlying9
          go_wp2_with fail
          refine wp_region_held_drew (S := fun wx => Keeps No wr wx) (by kernel_rfl) ((Keeps.refl No wr).drew) (fun hS => ?_)
          refine tk (i := 0) (oi := ⟨some 119, _, _, _, _, _⟩) (v := ?_) rfl (by kernel_rfl) (fun _ _ _ h => h) (by assumption) (by rfl) (fun w hSw => ?_) ?_; rotate_left; (focus (first | (go_simp; done) | (go_simp; with_reducible rfl))); simp only [Act.put, List.setIfInBounds_toArray, List.set_cons_zero, List.set_cons_succ]
          refine tk (i := 1) (oi := ⟨some 120, _, _, _, _, _⟩) (v := ?_) rfl (by kernel_rfl) (fun _ _ _ h => h) (by assumption) (by rfl) (fun w hSw => ?_) ?_; rotate_left; (focus (first | (go_simp; done) | (go_simp; with_reducible rfl))); simp only [Act.put, List.setIfInBounds_toArray, List.set_cons_zero, List.set_cons_succ]
          refine alone (i := 2) (oi := ⟨some 121, _, _, _, _, _⟩) rfl (by kernel_rfl) (by rfl) (fun K hK => ?_); go_simp
          refine (rright14_any (Kb.toNat : Int) aO _ cO O _ (hsO.kept hS) HOw.out).mono ?_
          rintro e w10 ⟨rfl, hk10⟩
          rw [Hr9.out]
          refine hK.out (fun wx => Keeps No wr wx) _ _ (fun _ h => h) (hS.transNo hk10) ?_
          clear hK K hS
          intro hS
          refine tk (i := 3) (oi := ⟨some 122, _, _, _, _, _⟩) (v := ?_) rfl (by kernel_rfl) (fun _ _ _ h => h) (by assumption) (by rfl) (fun w hSw => ?_) ?_; rotate_left; (focus (first | (go_simp; done) | (go_simp; with_reducible rfl))); simp only [Act.put, List.setIfInBounds_toArray, List.set_cons_zero, List.set_cons_succ]
          refine tk (i := 4) (oi := ⟨some 123, _, _, _, _, _⟩) (v := ?_) rfl (by kernel_rfl) (fun _ _ _ h => h) (by assumption) (by rfl) (fun w hSw => ?_) ?_; rotate_left; (focus (first | (go_simp; done) | (go_simp; with_reducible rfl))); simp only [Act.put, List.setIfInBounds_toArray, List.set_cons_zero, List.set_cons_succ]
          refine tk (i := 5) (oi := ⟨some 124, _, _, _, _, _⟩) (v := ?_) rfl (by kernel_rfl) (fun _ _ _ h => h) (by assumption) (by rfl) (fun w hSw => ?_) ?_; rotate_left; (focus (first | (go_simp; done) | (go_simp; with_reducible rfl))); simp only [Act.put, List.setIfInBounds_toArray, List.set_cons_zero, List.set_cons_succ]
          refine tk (i := 6) (oi := ⟨some 125, _, _, _, _, _⟩) (v := ?_) rfl (by kernel_rfl) (fun _ _ _ h => h) (by assumption) (by rfl) (fun w hSw => ?_) ?_; rotate_left; (focus (first | (go_simp; done) | (go_simp; with_reducible rfl))); simp only [Act.put, List.setIfInBounds_toArray, List.set_cons_zero, List.set_cons_succ]
          refine tk (i := 9) (oi := ⟨some 128, _, _, _, _, _⟩) (v := ?_) rfl (by kernel_rfl) (fun _ _ _ h => h) (by assumption) (by rfl) (fun w hSw => ?_) ?_; rotate_left; (focus (first | (go_simp; done) | (go_simp; with_reducible rfl))); simp only [Act.put, List.setIfInBounds_toArray, List.set_cons_zero, List.set_cons_succ]
          refine tk (i := 10) (oi := ⟨some 129, _, _, _, _, _⟩) (v := ?_) rfl (by kernel_rfl) (fun _ _ _ h => h) (by assumption) (by rfl) (fun w hSw => ?_) ?_; rotate_left; (focus (first | (go_simp; done) | (go_simp; with_reducible rfl))); simp only [Act.put, List.setIfInBounds_toArray, List.set_cons_zero, List.set_cons_succ]
          refine alone (i := 7) (oi := ⟨some 126, _, _, _, _, _⟩) rfl (by kernel_rfl) (by rfl) (fun K hK => ?_); go_simp
          refine (hput _ (hsO.kept hS)).mono ?_
          rintro e w11 ⟨v11, rfl, hown11, hk11⟩
          obtain ⟨a11, c11, rfl, hs11, _⟩ := Sl.ofOwn hown11
          have hk911 := hS.transNo hk11
          have hstrD := fun wx (hx : Keeps No w11 wx) => (hs11.kept hx).str (P := Tryz.prog) 22 9 _ Tryz.underlying22 Tryz.underlying5 Tryz.underlying9
          have hO11 := hk911.own hown (fun _ _ => not_No _)
          refine hK.out (fun wx => Keeps No w11 wx) _ _ (fun _ hx => hS.transNo (Keeps.transNo (hk11) hx)) (Keeps.refl _ _) ?_
          clear hK K hS
          intro hS
          refine tk (i := 8) (oi := ⟨some 127, _, _, _, _, _⟩) (v := ?_) rfl (by kernel_rfl) (fun _ _ _ h => h) (by assumption) (by rfl) (fun w hSw => ?_) ?_; rotate_left; (focus (first | (go_simp; done) | (go_simp; with_reducible rfl))); simp only [Act.put, List.setIfInBounds_toArray, List.set_cons_zero, List.set_cons_succ]
          refine tk (i := 11) (oi := ⟨some 130, _, _, _, _, _⟩) (v := ?_) rfl (by kernel_rfl) (fun _ _ _ h => h) (by assumption) (by rfl) (fun w hSw => ?_) ?_; rotate_left; (focus (first | (go_simp; done) | (go_simp; with_reducible rfl))); simp only [Act.put, List.setIfInBounds_toArray, List.set_cons_zero, List.set_cons_succ]
          refine tk (i := 12) (oi := ⟨some 131, _, _, _, _, _⟩) (v := ?_) rfl (by kernel_rfl) (fun _ _ _ h => h) (by assumption) (by rfl) (fun w hSw => ?_) ?_; rotate_left; (focus (first | (go_simp; done) | (go_simp; with_reducible rfl))); simp only [Act.put, List.setIfInBounds_toArray, List.set_cons_zero, List.set_cons_succ]
          refine wpAnyH_done (by kernel_rfl) ?_ _
          have hkz := hk09.transNo (hk911.transNo hS)
          have hOz := hS.own hO11 (fun _ _ => not_No _)
          cases E with
          | true =>
            have hsne : (D == b) = true := Hsne.out
            simp only [hsne, Bool.not_true]
            have hDb : D = b := by have := HE.out; simpa using this
            have HDb := Lib.hid hDb
            clear hDb
            go_wp2_with fail
            go_ret3
            refine ⟨some ((Kb.toNat : Int), O), ⟨fun k L e => ?_, fun k L h1 h2 h3 => ?_⟩, hkz, .inr ⟨_, _, _, rfl, rfl, ?_⟩⟩
            · injection e with e; injection e with e1 e2
              subst e1 e2
              exact ⟨Hr9.out, HOw.out, by rw [← HD.out]; exact HDb.out⟩
            · obtain ⟨q1, q2⟩ := Hmg.out k L h1 h2 h3
              rw [q1, q2]
            · rw [HOl.out]
              exact own_le hOz hk08.size
          | false =>
            have hsne : (D == b) = false := Hsne.out
            simp only [hsne, Bool.not_false]
            clear hsne
            have hDb : D ≠ b := by have := HE.out; simpa using this
            have HDb := Lib.hid hDb
            clear hDb
            go_wp2_with fail
            go_ret3
            exact ColGetPost.no (fun k L h1 h2 h3 => by
              obtain ⟨q1, q2⟩ := Hmg.out k L h1 h2 h3
              refine HDb.out ?_
              rw [HD.out, q1, q2]; exact h3) hkz
end Go.Proofs.YthbipcjgpocpaaaGreat
