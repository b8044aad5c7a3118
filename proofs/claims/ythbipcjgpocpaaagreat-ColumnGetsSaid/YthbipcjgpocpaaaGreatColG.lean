import Derived.Test.YthbipcjgpocpaaaGreatColP
/- Layer 14: the walks of unplain and unrest. -/
namespace Go.Proofs.YthbipcjgpocpaaaGreat
open Go.RowKit
set_option linter.unusedSimpArgs false
set_option linter.unusedVariables false
set_option maxRecDepth 100000

/-- What unrest answers. -/
def RestPost (k : Int) (c : Nat) (b : List UInt8) (n : Int) (w : World) (e : Ending) (w' : World) : Prop :=
  ∃ (r : Option (List Va)) (v : Value) (B : Bool), e = .returned (.tuple #[v, .bool B]) ∧ Keeps No w w' ∧ (0 ≤ n → RestOK k c b n.toNat r) ∧ (r = none → B = false) ∧
    (∀ X, r = some X → B = true ∧ w'.ownsRow w.heap.size 32 4 v X.length (X.map Va.cells).flatten)

/-! One value read. -/
theorem plain_one {v : Va} (h : rightV v = true) (hk : v.k = 1) (hw : v.wf) (r : List UInt8) : rdNat (some (plainV v ++ r)) = some (fold v.n, r) := by
  have e : plainV v = nat7 (fold v.n) := by unfold plainV; rw [if_pos hk]
  rw [e]
  exact natGo_put _ _ (fold_lt (wf_i64_iff hw.2.1))
theorem plain_two {v : Va} (h : rightV v = true) (hk : v.k = 2) : ∃ x : UInt8, plainV v = [x] ∧ (x.toNat : Int) = v.n := by
  refine ⟨UInt8.ofNat v.n.toNat, by unfold plainV; rw [if_neg (by omega), if_pos hk], ?_⟩
  rcases (right_two h hk).2 with h | h <;> rw [h] <;> rfl
theorem plain_three {v : Va} (h : rightV v = true) (hk : v.k = 3) (r : List UInt8) : rdNat (some (plainV v ++ r)) = some (v.s.size, v.s.data.toList ++ r) ∧ v.s.size ≤ 64 := by
  have hs := (right_three h hk).2
  have e : plainV v = nat7 v.s.size ++ v.s.data.toList := by unfold plainV; rw [if_neg (by omega), if_neg (by omega), if_pos hk]
  rw [e, List.append_assoc]
  exact ⟨natGo_put _ _ (by omega), hs⟩
theorem plain_four {v : Va} (hk : v.k = 4) : plainV v = le8 v.f := by unfold plainV; rw [if_neg (by omega), if_neg (by omega), if_neg (by omega)]

/-- How far unplain is: j values read, X; the bytes that are left, st. -/
def Far (k : Int) (b : List UInt8) (N j : Nat) (X : List Va) (st : Option (List UInt8)) : Prop :=
  ∀ F, Fu k F → F.length = N → plainC F = b → st = some (plainC (F.drop j)) ∧ X = F.take j
theorem Far.next {k : Int} {b : List UInt8} {N j : Nat} {X : List Va} {st : Option (List UInt8)} (h : Far k b N j X st) {F : List Va} (hF : Fu k F) (hn : F.length = N) (hb : plainC F = b) (hj : j < N) :
    ∃ v ∈ F, st = some (plainV v ++ plainC (F.drop (j + 1))) ∧ X ++ [v] = F.take (j + 1) := by
  obtain ⟨h1, h2⟩ := h F hF hn hb
  have hl : j < F.length := by omega
  refine ⟨F[j], List.getElem_mem hl, ?_, by rw [h2, List.take_succ_eq_append_getElem hl]⟩
  rw [h1, List.drop_eq_getElem_cons hl, plainC_cons]
theorem Far.no {k : Int} {b : List UInt8} {N j : Nat} {X : List Va} {st : Option (List UInt8)} (h : Far k b N j X st) (hj : j < N) (hv : ∀ v r, rightV v = true → v.k = k → v.wf → 1 ≤ k ∧ k ≤ 4 → st ≠ some (plainV v ++ r)) : RestOK k 0 b N none :=
  ⟨fun X hX => by simp at hX, fun F hF hn hb => by
    have hb' : plainC F = b := by simpa [restC] using hb
    obtain ⟨v, hvF, hst, _⟩ := h.next hF hn hb' hj
    obtain ⟨h1, h2, h3⟩ := hF.all v hvF
    exact absurd hst (hv v _ h1 h2 h3 hF.k1)⟩
/-- One value more. -/
def Step1 (k : Int) (st : Option (List UInt8)) (x : Va) (B : Bool) (st' : Option (List UInt8)) : Prop :=
  ∀ v r, rightV v = true → v.k = k → v.wf → 1 ≤ k ∧ k ≤ 4 → st = some (plainV v ++ r) → B = true ∧ x = v ∧ st' = some r
theorem Far.step {k : Int} {b : List UInt8} {N j : Nat} {X : List Va} {st st' : Option (List UInt8)} {x : Va} (h : Far k b N j X st) (hj : j < N) (hs : Step1 k st x true st') : Far k b N (j + 1) (X ++ [x]) st' := by
  intro F hF hn hb
  obtain ⟨v, hvF, hst, hX⟩ := h.next hF hn hb hj
  obtain ⟨h1, h2, h3⟩ := hF.all v hvF
  obtain ⟨_, hx, hst'⟩ := hs v _ h1 h2 h3 hF.k1 hst
  rw [hx]
  exact ⟨hst', hX⟩
theorem Far.bad {k : Int} {b : List UInt8} {N j : Nat} {X : List Va} {st st' : Option (List UInt8)} {x : Va} (h : Far k b N j X st) (hj : j < N) (hs : Step1 k st x false st') : RestOK k 0 b N none :=
  h.no hj fun v r h1 h2 h3 h4 e => by have := (hs v r h1 h2 h3 h4 e).1; cases this

theorem step_num {st st' : Option (List UInt8)} {V : Int} {B : Bool} (h : NumQ st V B st') : Step1 1 st ⟨1, V, ByteArray.empty, 0⟩ B st' := by
  intro v r h1 h2 h3 hk14 hst
  have hr := plain_one h1 h2 h3 r
  rw [← hst] at hr
  cases B with
  | false => have := (h.2 rfl).1; rw [hr] at this; cases this
  | true =>
    obtain ⟨u, r', e, hV, hst', _⟩ := h.1 rfl
    rw [hr] at e
    injection e with e; injection e with e1 e2
    refine ⟨rfl, ?_, by rw [hst', ← e2]⟩
    rw [hV, ← e1, unfold_fold]
    exact (right_one h1 h2).symm
theorem num_wf {st st' : Option (List UInt8)} {V : Int} {B : Bool} (h : NumQ st V B st') : (Lit.int .i64 V).wf = true := by
  cases B with
  | false => rw [(h.2 rfl).2.2]; decide
  | true =>
    obtain ⟨u, r', _, hV, _, hu⟩ := h.1 rfl
    rw [hV]
    refine wf_of ?_
    unfold unfoldN
    split <;> omega
theorem step_byte {st st' : Option (List UInt8)} {X : UInt8} {B : Bool} (h : ByteQ st X B st') : Step1 2 st ⟨2, (X.toNat : Int), ByteArray.empty, 0⟩ B st' := by
  intro v r h1 h2 h3 hk14 hst
  obtain ⟨x, hx, hxn⟩ := plain_two h1 h2
  rw [hx] at hst
  cases B with
  | false =>
    obtain ⟨_, h' | h'⟩ := h.2 rfl
    · rw [hst] at h'; cases h'
    · rw [hst] at h'; cases h'
  | true =>
    obtain ⟨r', e, hst'⟩ := h.1 rfl
    rw [hst] at e
    injection e with e; injection e with e1 e2
    refine ⟨rfl, ?_, hst'.trans (by rw [← e2]; rfl)⟩
    rw [← e1, hxn]
    exact (right_two h1 h2).1.symm
/-- Text, without a case split. -/
def TextQ (st : Option (List UInt8)) (V : Tx) (B : Bool) (st' : Option (List UInt8)) : Prop :=
  ∀ n r, rdNat st = some (n, r) → n ≤ r.length → B = true ∧ V = r.take n ∧ st' = some (r.drop n)
theorem rtext_t (b sb : Nat) (st : Option (List UInt8)) (w : World) (h : Rds w b sb st) :
    Calls Tryz.prog 58 #[.pointer (some ⟨b, 0, none⟩)] w fun e w' => ∃ (V : Tx) (B : Bool) (st' : Option (List UInt8)), e = .returned (.tuple #[.string ⟨V.toArray⟩, .bool B]) ∧ Rds w' b sb st' ∧ Keeps (· = b) w w' ∧ TextQ st V B st' := by
  refine (rtext_any b sb st w h).mono ?_
  intro e w1 h1
  cases hr : rdNat st with
  | none =>
    rw [hr] at h1
    obtain ⟨rfl, hb, hk⟩ := h1
    exact ⟨[], false, none, rfl, hb, hk, fun n r e => by rw [hr] at e; cases e⟩
  | some p =>
    obtain ⟨v, r⟩ := p
    rw [hr] at h1
    unfold TextPost at h1
    simp only at h1
    by_cases hv : v ≤ r.length
    · rw [if_pos hv] at h1
      obtain ⟨rfl, hb, hk⟩ := h1
      exact ⟨r.take v, true, some (r.drop v), rfl, hb, hk, fun n r' e _ => by rw [hr] at e; injection e with e; injection e with e1 e2; subst e1 e2; exact ⟨rfl, rfl, rfl⟩⟩
    · rw [if_neg hv] at h1
      obtain ⟨rfl, hb, hk⟩ := h1
      exact ⟨[], false, none, rfl, hb, hk, fun n r' e hle => by rw [hr] at e; injection e with e; injection e with e1 e2; subst e1 e2; exact absurd hle hv⟩
theorem step_text {st st' : Option (List UInt8)} {V : Tx} {B : Bool} (h : TextQ st V B st') : Step1 3 st ⟨3, 0, ⟨V.toArray⟩, 0⟩ B st' := by
  intro v r h1 h2 h3 hk14 hst
  obtain ⟨hr, _⟩ := plain_three h1 h2 r
  rw [← hst] at hr
  have hb := blen v.s
  obtain ⟨e1, e2, e3⟩ := h _ _ hr (by rw [List.length_append, hb]; omega)
  rw [List.take_left' hb] at e2
  rw [List.drop_left' hb] at e3
  refine ⟨e1, ?_, e3⟩
  rw [e2]
  exact (right_three h1 h2).1.symm
/-- Eight bytes, one behind the other: t of them read, u so far. -/
def Far8 (st : Option (List UInt8)) (t u : Nat) (B : Bool) (st' : Option (List UInt8)) : Prop :=
  u < 2 ^ (8 * t) ∧ ∀ f r, f < 18446744073709551616 → st = some (le8 f ++ r) → u = f % 2 ^ (8 * t) ∧ st' = some ((le8 f).drop t ++ r) ∧ B = true
theorem far8_zero (st : Option (List UInt8)) : Far8 st 0 0 true st := ⟨by decide, fun f r _ h => ⟨by simp [Nat.mod_one], by simpa using h, rfl⟩⟩
theorem far8_step {st st' st'' : Option (List UInt8)} {t u : Nat} {B B' : Bool} {X : UInt8} (h : Far8 st t u B st') (ht : t < 8) (hq : ByteQ st' X B' st'') : Far8 st (t + 1) (u + X.toNat * 2 ^ (8 * t)) B' st'' := by
  have hX := X.toNat_lt
  refine ⟨?_, fun f r hf hst => ?_⟩
  · rw [show 8 * (t + 1) = 8 * t + 8 from by omega, Nat.pow_add]
    have h1 := h.1
    have h2 : X.toNat * 2 ^ (8 * t) ≤ 255 * 2 ^ (8 * t) := Nat.mul_le_mul_right _ (by omega)
    omega
  · obtain ⟨h1, h2, _⟩ := h.2 f r hf hst
    have hl : t < (le8 f).length := by rw [le8_len]; exact ht
    have hg : (le8 f)[t] = UInt8.ofNat (f / 2 ^ (8 * t)) := by simp [le8]
    rw [List.drop_eq_getElem_cons hl, hg] at h2
    cases B' with
    | false =>
      obtain ⟨_, h' | h'⟩ := hq.2 rfl
      · rw [h2] at h'; cases h'
      · rw [h2] at h'; cases h'
    | true =>
      obtain ⟨r', e, hst'⟩ := hq.1 rfl
      rw [h2] at e
      injection e with e; injection e with e1 e2
      refine ⟨?_, hst'.trans (by rw [← e2]; rfl), rfl⟩
      rw [mod_step, h1, ← e1, UInt8.toNat_ofNat']
theorem step_eight {st st' : Option (List UInt8)} {u : Nat} {B : Bool} {k : Int} (h : Far8 st 8 u B st') (hk : k ≠ 1 ∧ k ≠ 2 ∧ k ≠ 3) : Step1 k st ⟨k, 0, ByteArray.empty, u⟩ B st' := by
  intro v r h1 h2 h3 hk14 hst
  by_cases h4 : v.k = 4
  · rw [plain_four h4] at hst
    obtain ⟨e1, e2, e3⟩ := h.2 v.f r h3.2.2 hst
    refine ⟨e3, ?_, by rw [e2, List.drop_of_length_le (by rw [le8_len]; exact Nat.le_refl _)]; rfl⟩
    rw [e1, f64_mod h3.2.2, ← h2, h4]
    exact (right_four h1 h4).1.symm
  · omega

theorem restOK0 {k : Int} {b : List UInt8} {N : Nat} {X : List Va} {st : Option (List UInt8)} (h : Far k b N N X st) (hX : X.length = N) (hw : ∀ v ∈ X, v.wf) : RestOK k 0 b N (if st = some [] then some X else none) := by
  refine ⟨fun Y hY => ?_, fun F hF hn hb => ?_⟩
  · split at hY
    · injection hY with hY; subst hY; exact ⟨hX, hw⟩
    · cases hY
  · have hb' : plainC F = b := by simpa [restC] using hb
    obtain ⟨h1, h2⟩ := h F hF hn hb'
    rw [List.drop_of_length_le (by omega)] at h1
    rw [if_pos (by rw [h1]; rfl), h2, List.take_of_length_le (by omega)]

theorem byte_shl {P : Program} (V : UInt8) (t : Nat) (ht : t < 8) (w : World) : (Op.shift BinOp.shl IntKind.u64 (IntKind.u64.wrap (V.toNat : Int)) IntKind.i64 (IntKind.i64.wrap (8 * (t : Int)))).run P w = .ok (.int .u64 ((V.toNat * 2 ^ (8 * t) : Nat) : Int)) w ∧ V.toNat * 2 ^ (8 * t) < 18446744073709551616 := by
  have hV := V.toNat_lt
  have hlt : V.toNat * 2 ^ (8 * t) < 18446744073709551616 := by
    have h1 : 2 ^ (8 * t) ≤ 2 ^ 56 := Nat.pow_le_pow_right (by decide) (by omega)
    have h2 : V.toNat * 2 ^ (8 * t) ≤ 255 * 2 ^ 56 := Nat.mul_le_mul (by omega) h1
    omega
  refine ⟨?_, hlt⟩
  have e1 : IntKind.u64.wrap (V.toNat : Int) = (V.toNat : Int) := by rw [IntKind.wrap_u64]; omega
  have e2 : IntKind.i64.wrap (8 * (t : Int)) = ((8 * t : Nat) : Int) := by rw [IntKind.wrap_i64]; omega
  have e5 : Op.shift BinOp.shl IntKind.u64 (V.toNat : Int) IntKind.i64 ((8 * t : Nat) : Int) = pure (.int .u64 (IntKind.u64.wrap ((V.toNat : Int) * 2 ^ (((8 * t : Nat) : Int)).toNat))) := shift_shl_u64 _ _ _ (by omega) (by omega)
  rw [e1, e2, e5, Int.toNat_natCast]
  have e3 : IntKind.u64.wrap ((V.toNat : Int) * 2 ^ (8 * t)) = ((V.toNat * 2 ^ (8 * t) : Nat) : Int) := by
    have e4 : (V.toNat : Int) * 2 ^ (8 * t) = ((V.toNat * 2 ^ (8 * t) : Nat) : Int) := by push_cast; rfl
    rw [e4, IntKind.wrap_u64]; omega
  rw [e3]
  rfl
theorem or_shl {u V t : Nat} (hu : u < 2 ^ (8 * t)) (ht : t < 8) (hlt : V * 2 ^ (8 * t) < 18446744073709551616) : bits BinOp.or IntKind.u64 (u : Int) ((V * 2 ^ (8 * t) : Nat) : Int) = ((u + V * 2 ^ (8 * t) : Nat) : Int) := by
  have h1 : 2 ^ (8 * t) ≤ 2 ^ 56 := Nat.pow_le_pow_right (by decide) (by omega)
  rw [bits_or_u64 _ _ (by omega) hlt, or_low _ _ _ hu]

set_option maxHeartbeats 8000000 in
theorem unplain_any (k : Int) (a : Option Addr) (m c : Nat) (b : List UInt8) (n : Int) (w : World) (hkw : (Lit.int .i64 k).wf = true) (hs : Sl w a m c (b.map byteV)) (hm : m ≤ 100000) (hn : n ≤ 256) :
    Calls Tryz.prog 29 #[.int .i64 k, .slice a m c, .int .i64 n] w (RestPost k 0 b n w) := by
  obtain ⟨N, hN⟩ : ∃ N, N = n.toNat := ⟨_, rfl⟩
  have hNn : N ≤ 256 := by omega
  have HN := Lib.hid hN
  have hNlt : ∀ j : Nat, ((j : Int) < n) = (j < N) := fun j => by rw [hN]; exact propext ⟨fun h => by omega, fun h => by omega⟩
  have HNlt := Lib.hid hNlt
  clear hN hNlt
  go_enter Tryz.func29, Tryz.ntmps29
  go_wp2_with fail
  refine (open_any a m c b w hs (by omega)).mono ?_
  rintro e w1 ⟨rb, sb, rfl, hrd, hrb, hsb, hrb1, hsb1, hk1⟩
  go_wp2_with fail
  go_loopg [20, 9] N (fun q i bv wr => ∃ (j : Nat) (X : List Va) (st : Option (List UInt8)), j ≤ N ∧ q = N - j ∧ i = .int .i64 (j : Int) ∧ X.length = j ∧ Hid (∀ v ∈ X, v.wf) ∧ Hid (Far k b N j X st) ∧ wr.ownsRow w1.heap.size 32 4 bv j (X.map Va.cells).flatten ∧ Rds wr rb sb st ∧ Keeps No w wr ∧ w1.heap.size ≤ wr.heap.size)
  case atStart => exact ⟨0, [], some b, Nat.zero_le _, rfl, rfl, rfl, Lib.hid (fun v hv => by simp at hv), Lib.hid (fun F hF hn hb => ⟨by rw [hb.symm]; rfl, by simp⟩), World.ownsRow_nil _ _ _ _, hrd, hk1, Nat.le_refl _⟩
  case round =>
    obtain ⟨j, X, st, hj, hq, rfl, hXl, HXw, HFar, hown, hrds, hkr, hzr⟩ := hrel
    have Hq := Lib.hid hq
    have HXl := Lib.hid hXl
    clear hq hXl
    by_cases hlt : j < N
    · have hjn : (j : Int) < n := by have := HNlt.out j; rw [this]; exact hlt
      obtain ⟨W, hW⟩ : ∃ x, x = wr := ⟨_, rfl⟩
      subst hW
      have hkN : Keeps No W (W.alloc (.cells #[.int .i64 k, .int .i64 0, .string ⟨#[]⟩, .int .u64 0] 32)) := (Keeps.refl No W).alloc _
      have hbN := heap_alloc_new W (.cells #[.int .i64 k, .int .i64 0, .string ⟨#[]⟩, .int .u64 0] 32)
      have hrdN := hrds.keep hkN (not_No _) (not_No _)
      go_upto_block 2 with fail
      go_cut [11] (fun t wx => ∃ (x : Va) (B : Bool) (st' : Option (List UInt8)), t = .bool B ∧ wx.heap[W.heap.size]? = some (.cells #[.int .i64 x.k, .int .i64 x.n, .string x.s, .int .u64 (x.f : Int)] 32 (0, 0)) ∧ Hid x.wf ∧ Hid (Step1 k st x B st') ∧ Rds wx rb sb st' ∧ Keeps (fun i => i = rb) W wx ∧ W.heap.size < wx.heap.size)
      case first =>
        have hsz : (W.alloc (.cells #[.int .i64 k, .int .i64 0, .string ⟨#[]⟩, .int .u64 0] 32)).heap.size = W.heap.size + 1 := by simp
        generalize W.alloc (.cells #[.int .i64 k, .int .i64 0, .string ⟨#[]⟩, .int .u64 0] 32) = W2 at hkN hbN hrdN hsz ⊢
        by_cases h1 : k = 1
        · subst h1
          go_wp2_with fail
          refine (rnumber_q rb sb st _ hrdN).mono ?_
          rintro e w3 ⟨V, B, st', rfl, hrd3, hk3, hq3⟩
          have hb3 := hk3.blk hbN (show ¬ W.heap.size = rb by omega)
          obtain ⟨q0, q1, q2, q3⟩ := row4 hb3
          have hf3 := frozen_of_row w3 W.heap.size 1 _ _ hb3
          have hb4 := heap_setCell_same w3 W.heap.size 1 _ _ (.int .i64 V) hb3
          have hkS : Keeps (fun i => i = W.heap.size) w3 (w3.setCell ⟨W.heap.size, 1, none⟩ (.int .i64 V)) := Keeps.set w3 W.heap.size 1 _
          have hz3 := hk3.size
          have hzS := hkS.size
          go_wp2_with fail
          go_meet
          exact ⟨⟨1, V, ByteArray.empty, 0⟩, B, st', rfl, hb4, Lib.hid ⟨hkw, num_wf hq3, show (0 : Nat) < 18446744073709551616 by decide⟩, Lib.hid (step_num hq3), hrd3.keep hkS (by omega) (by omega), (hkN.noTrans hk3 (fun _ _ h => h)).trans hkS (fun i hi e => by omega), by omega⟩
        by_cases h2 : k = 2
        · subst h2
          go_wp2_with fail
          refine (byte_q rb sb st _ hrdN).mono ?_
          rintro e w3 ⟨V, B, st', rfl, hrd3, hk3, hq3⟩
          have hV := V.toNat_lt
          have hb3 := hk3.blk hbN (show ¬ W.heap.size = rb by omega)
          obtain ⟨q0, q1, q2, q3⟩ := row4 hb3
          have hf3 := frozen_of_row w3 W.heap.size 1 _ _ hb3
          have hb4 := heap_setCell_same w3 W.heap.size 1 _ _ (.int .i64 (V.toNat : Int)) hb3
          have hkS : Keeps (fun i => i = W.heap.size) w3 (w3.setCell ⟨W.heap.size, 1, none⟩ (.int .i64 (V.toNat : Int))) := Keeps.set w3 W.heap.size 1 _
          have hz3 := hk3.size
          have hzS := hkS.size
          go_wp2_with fail
          go_meet
          exact ⟨⟨2, (V.toNat : Int), ByteArray.empty, 0⟩, B, st', rfl, hb4, Lib.hid ⟨hkw, wf_of (x := (V.toNat : Int)) (by omega), show (0 : Nat) < 18446744073709551616 by decide⟩, Lib.hid (step_byte hq3), hrd3.keep hkS (by omega) (by omega), (hkN.noTrans hk3 (fun _ _ h => h)).trans hkS (fun i hi e => by omega), by omega⟩
        by_cases h3 : k = 3
        · subst h3
          go_wp2_with fail
          refine (rtext_t rb sb st _ hrdN).mono ?_
          rintro e w3 ⟨V, B, st', rfl, hrd3, hk3, hq3⟩
          have hb3 := hk3.blk hbN (show ¬ W.heap.size = rb by omega)
          obtain ⟨q0, q1, q2, q3⟩ := row4 hb3
          have hf3 := frozen_of_row w3 W.heap.size 2 _ _ hb3
          have hb4 := heap_setCell_same w3 W.heap.size 2 _ _ (.string ⟨V.toArray⟩) hb3
          have hkS : Keeps (fun i => i = W.heap.size) w3 (w3.setCell ⟨W.heap.size, 2, none⟩ (.string ⟨V.toArray⟩)) := Keeps.set w3 W.heap.size 2 _
          have hz3 := hk3.size
          have hzS := hkS.size
          go_wp2_with fail
          go_meet
          exact ⟨⟨3, 0, ⟨V.toArray⟩, 0⟩, B, st', rfl, hb4, Lib.hid ⟨hkw, wf_of (x := 0) (by decide), show (0 : Nat) < 18446744073709551616 by decide⟩, Lib.hid (step_text hq3), hrd3.keep hkS (by omega) (by omega), (hkN.noTrans hk3 (fun _ _ h => h)).trans hkS (fun i hi e => by omega), by omega⟩
        have e1 : (k == 1) = false := by simp [h1]
        have e2 : (k == 2) = false := by simp [h2]
        have e3 : (k == 3) = false := by simp [h3]
        have Hk123 := Lib.hid (show k ≠ 1 ∧ k ≠ 2 ∧ k ≠ 3 from ⟨h1, h2, h3⟩)
        clear h1 h2 h3
        go_wp2_with fail
        go_loopg [25, 11] 8 (fun q2 i2 ok wr => ∃ (t u : Nat) (B : Bool) (st' : Option (List UInt8)), t ≤ 8 ∧ q2 = 8 - t ∧ i2 = .int .i64 (t : Int) ∧ ok = .bool B ∧ Hid (Far8 st t u B st') ∧ u < 2 ^ (8 * t) ∧ wr.heap[W.heap.size]? = some (.cells #[.int .i64 k, .int .i64 0, .string ⟨#[]⟩, .int .u64 (u : Int)] 32 (0, 0)) ∧ Rds wr rb sb st' ∧ Keeps (fun i => i = rb) W wr ∧ W.heap.size < wr.heap.size)
        case atStart => exact ⟨0, 0, true, st, by omega, rfl, rfl, rfl, Lib.hid (far8_zero st), by decide, hbN, hrdN, hkN.no, by omega⟩
        case round =>
          obtain ⟨t, u, B, st', ht, hq2, rfl, rfl, HF8, hu, hbx, hrdx, hkx, hzx⟩ := hrel
          have Hq2 := Lib.hid hq2
          clear hq2
          by_cases ht8 : t < 8
          · go_wp2_with fail
            refine (byte_q rb sb st' _ hrdx).mono ?_
            rintro e w3 ⟨V, B', st'', rfl, hrd3, hk3, hq3⟩
            have hV := V.toNat_lt
            have hb3 := hk3.blk hbx (show ¬ W.heap.size = rb by omega)
            obtain ⟨q0, q1, q2, q3⟩ := row4 hb3
            have hf3 := frozen_of_row w3 W.heap.size 3 _ _ hb3
            go_wp2_with fail
            have hfam := fun wx (hx : Keeps No w3 wx) => (row4 (hx.blk hb3 (not_No _))).2.2.2
            have hfamF := fun wx (hx : Keeps No w3 wx) => frozen_of_row wx W.heap.size 3 _ _ (hx.blk hb3 (not_No _))
            have hshl := fun ww => (byte_shl (P := Tryz.prog) V t ht8 ww).1
            have hlt64 := (byte_shl (P := Tryz.prog) V t ht8 w3).2
            have hor := or_shl hu ht8 hlt64
            generalize hYV : V.toNat * 2 ^ (8 * t) = Y at hshl hlt64 hor
            refine region_L (fun wx => Keeps No w3 wx) 9 (by kernel_rfl) ((Keeps.refl No w3).drew) (fun hS => ?_)
            refine tkL (i := 0) (oi := ⟨some 33, _, _, _, _, _⟩) (v := ?_) rfl (by kernel_rfl) (fun _ _ _ h => h) (by assumption) (by rfl) (fun w hSw => ?_) ?_; rotate_left; (focus (first | (go_simp; done) | (go_simp; with_reducible rfl))); simp only [Act.put, List.setIfInBounds_toArray, List.set_cons_zero, List.set_cons_succ]
            refine tkL (i := 1) (oi := ⟨some 34, _, _, _, _, _⟩) (v := ?_) rfl (by kernel_rfl) (fun _ _ _ h => h) (by assumption) (by rfl) (fun w hSw => ?_) ?_; rotate_left; (focus (first | (go_simp; done) | (go_simp; with_reducible rfl))); simp only [Act.put, List.setIfInBounds_toArray, List.set_cons_zero, List.set_cons_succ]
            refine tkL (i := 2) (oi := ⟨some 35, _, _, _, _, _⟩) (v := ?_) rfl (by kernel_rfl) (fun _ _ _ h => h) (by assumption) (by rfl) (fun w hSw => ?_) ?_; rotate_left; (focus (first | (go_simp; done) | (go_simp; with_reducible rfl))); simp only [Act.put, List.setIfInBounds_toArray, List.set_cons_zero, List.set_cons_succ]
            refine tkL (i := 3) (oi := ⟨some 36, _, _, _, _, _⟩) (v := ?_) rfl (by kernel_rfl) (fun _ _ _ h => h) (by assumption) (by rfl) (fun w hSw => ?_) ?_; rotate_left; (focus (first | (go_simp; done) | (go_simp; with_reducible rfl))); simp only [Act.put, List.setIfInBounds_toArray, List.set_cons_zero, List.set_cons_succ]
            refine tkL (i := 4) (oi := ⟨some 37, _, _, _, _, _⟩) (v := ?_) rfl (by kernel_rfl) (fun _ _ _ h => h) (by assumption) (by rfl) (fun w hSw => ?_) ?_; rotate_left; (focus (first | (go_simp; done) | (go_simp; with_reducible rfl))); simp only [Act.put, List.setIfInBounds_toArray, List.set_cons_zero, List.set_cons_succ]
            refine tkL (i := 5) (oi := ⟨some 38, _, _, _, _, _⟩) (v := ?_) rfl (by kernel_rfl) (fun _ _ _ h => h) (by assumption) (by rfl) (fun w hSw => ?_) ?_; rotate_left; (focus (first | (go_simp; done) | (go_simp; with_reducible rfl))); simp only [Act.put, List.setIfInBounds_toArray, List.set_cons_zero, List.set_cons_succ]
            refine tkL (i := 6) (oi := ⟨some 39, _, _, _, _, _⟩) (v := ?_) rfl (by kernel_rfl) (fun _ _ _ h => h) (by assumption) (by rfl) (fun w hSw => ?_) ?_; rotate_left; (focus (first | (go_simp; done) | (go_simp; with_reducible rfl))); simp only [Act.put, List.setIfInBounds_toArray, List.set_cons_zero, List.set_cons_succ]
            refine tkL (i := 7) (oi := ⟨some 40, _, _, _, _, _⟩) (v := ?_) rfl (by kernel_rfl) (fun _ _ _ h => h) (by assumption) (by rfl) (fun w hSw => ?_) ?_; rotate_left; (focus (first | (go_simp; done) | (go_simp; with_reducible rfl))); simp only [Act.put, List.setIfInBounds_toArray, List.set_cons_zero, List.set_cons_succ]
            refine tkL (i := 8) (oi := ⟨some 41, _, _, _, _, _⟩) (v := ?_) rfl (by kernel_rfl) (fun _ _ _ h => h) (by assumption) (by rfl) (fun w hSw => ?_) ?_; rotate_left; (focus (first | (go_simp; done) | (go_simp; with_reducible rfl))); simp only [Act.put, List.setIfInBounds_toArray, List.set_cons_zero, List.set_cons_succ]
            refine aloneL (i := 9) (oi := ⟨none, _, _, _, _, _⟩) rfl (by kernel_rfl) (by rfl) (fun K hK => ?_); go_simp
            have hb4 : ((w3.setCell ⟨W.heap.size, 3, none⟩ (.int .u64 ((u : Int) + (Y : Int)))).drew).heap[W.heap.size]? = some (.cells #[.int .i64 k, .int .i64 0, .string ⟨#[]⟩, .int .u64 ((u + Y : Nat) : Int)] 32 (0, 0)) := by
              rw [Int.natCast_add]
              exact heap_setCell_same w3 W.heap.size 3 _ _ (.int .u64 ((u : Int) + (Y : Int))) hb3
            have hkS : Keeps (fun i => i = W.heap.size) w3 ((w3.setCell ⟨W.heap.size, 3, none⟩ (.int .u64 ((u : Int) + (Y : Int)))).drew) := (Keeps.set w3 W.heap.size 3 _).drew
            generalize (w3.setCell ⟨W.heap.size, 3, none⟩ (.int .u64 ((u : Int) + (Y : Int)))).drew = w4 at hb4 hkS ⊢
            refine hK.out (fun wx => Keeps No w3 wx) _ _ (fun _ h => h) (fun e => absurd (show true = false from e) (by decide)) ?_
            clear hK K hS
            intro hS
            refine doneL (by kernel_rfl) ?_ _
            have hz3 := hk3.size
            have hz4 := hkS.size
            have HYV := Lib.hid hYV
            clear hYV
            go_wp2_with fail
            go_roundg (8 - (t + 1))
            case measure => have := Hq2.out; omega
            case rel =>
              have hst := far8_step HF8.out ht8 hq3
              rw [HYV.out] at hst
              exact ⟨t + 1, u + Y, B', st'', by omega, rfl, by go_num, rfl, Lib.hid hst, hst.1, hb4, hrd3.keep hkS (by omega) (by omega), (hkx.trans hk3 (fun _ _ h => h)).trans hkS (fun i hi e => by omega), by omega⟩
          · obtain rfl : t = 8 := by omega
            go_wp2_with fail
            go_meet
            have hu64 : u < 18446744073709551616 := hu
            exact ⟨⟨k, 0, ByteArray.empty, u⟩, B, st', rfl, hbx, Lib.hid ⟨hkw, wf_of (x := 0) (by decide), hu64⟩, Lib.hid (step_eight HF8.out Hk123.out), hrdx, hkx, hzx⟩
      case rest =>
        obtain ⟨x, B, st', rfl, hbx, Hxw, HS1, hrdx, hkx, hzx⟩ := hcut
        have hzW := hkr.size
        have hkwc : Keeps No w wc := hkr.trans hkx (fun i hi e => by have := hk1.size; omega)
        cases B
        · go_wp2_with fail
          go_ret2
          exact ⟨none, _, false, rfl, hkwc, fun _ => by rw [← HN.out]; exact HFar.out.bad hlt HS1.out, fun _ => rfl, fun X h => by cases h⟩
        · have hownx := hkx.own hown (fun i hi => by have := (hown.lt i hi).1; omega)
          have hl := (load_cells (P := Tryz.prog) (ty := 32) (k := 4) Tryz.underlying32 rfl val_size ⟨W.heap.size, 0, none⟩ x.cells rfl (fun j v hj => by
            rw [Addr.add_lit, Nat.zero_add, cell_of_row _ W.heap.size _ _ _ (0, 0) hbx]
            simpa [Va.cells] using hj)).1
          obtain ⟨xk, xn, xs, xf⟩ := x
          unfold Va.cells at hl
          simp only at hl
          have hkB : Keeps No wc (wc.alloc (.cells #[.int .i64 xk, .int .i64 xn, .string xs, .int .u64 (xf : Int)] 32)) := (Keeps.refl No wc).alloc _
          have hownB := hkB.own hownx (fun _ _ => not_No _)
          have hrdB := hrdx.keep hkB (not_No _) (not_No _)
          have hzB := hkB.size
          clear hbx
          go_wp2_with (first | (refine wpList_loadV (op := ⟨some 74, _, _, _, _, _⟩) rfl 32 (.tmp 10) rfl _ rfl _ hl ?_) | (at_builtin; go_loud (refine app_ownK rfl _ _ 25 rfl w1.heap.size 32 _ 4 40 Tryz.underlying25 val_info rfl (by decide) (by decide) _ j (X.map Va.cells).flatten rfl hownB _ 1 1 [Va.cells ⟨xk, xn, xs, xf⟩] rfl (SlK.one _ (Va.cells ⟨xk, xn, xs, xf⟩) _ rfl) ?h1 ?hb ?hB ?_)))
          case h1 => exact vals_one [⟨xk, xn, xs, xf⟩]
          case hb => omega
          case hB => omega
          intro v7 w7 hown7 hg7 hgg7
          have hz7 := hg7.size
          go_wp2_with fail
          go_roundg (N - (j + 1))
          case measure => have := Hq.out; omega
          case rel =>
            refine ⟨j + 1, X ++ [⟨xk, xn, xs, xf⟩], st', by omega, rfl, by go_num, by rw [List.length_append, HXl.out]; rfl, Lib.hid (fun v hv => ?_), Lib.hid (HFar.out.step hlt HS1.out), ?_, ?_, ?_, by omega⟩
            · rcases List.mem_append.1 hv with h | h
              · exact HXw.out v h
              · simp at h; subst h; exact Hxw.out
            · rw [List.map_append, List.flatten_append]; exact hown7
            · refine hrdB.keep ((Keeps.refl (fun k => w1.heap.size ≤ k) _).grown hg7 (fun k hk _ => (hownB.lt k hk).1)) (by omega) (by omega)
            · exact (hkwc.transNo hkB).grown hg7 (fun i hi hlt2 => by have := (hownB.lt i hi).1; have := hk1.size; omega)
    · obtain rfl : j = N := by omega
      have hjn : ¬ (j : Int) < n := by have := HNlt.out j; rw [this]; exact hlt
      go_wp2_with fail
      refine (done_any rb sb st _ hrds).mono ?_
      rintro e w9 ⟨rfl, rfl⟩
      have hro := restOK0 HFar.out HXl.out HXw.out
      go_wp2_with fail
      go_ret2
      by_cases hst : st = some []
      · rw [if_pos hst] at hro
        exact ⟨some X, _, _, by rw [decide_eq_true hst]; rfl, hkr, fun _ => by rw [← HN.out]; exact hro, fun h => (by cases h), fun Y hY => by
          injection hY with hY; subst hY
          refine ⟨rfl, ?_⟩
          rw [HXl.out]
          exact own_le hown hk1.size⟩
      · rw [if_neg hst] at hro
        exact ⟨none, _, _, by rw [decide_eq_false hst]; rfl, hkr, fun _ => by rw [← HN.out]; exact hro, fun _ => rfl, fun Y hY => by cases hY⟩
end Go.Proofs.YthbipcjgpocpaaaGreat
/- Layer 14: the walk of unrest. -/
namespace Go.Proofs.YthbipcjgpocpaaaGreat
open Go.RowKit
set_option linter.unusedSimpArgs false
set_option linter.unusedVariables false
set_option maxRecDepth 100000

/-- What the numbers, the texts and the truth that unrest read say of the rest. -/
def Said14 (k : Int) (c : Nat) (b : List UInt8) (n : Int) (L : List Int) (T : List Tx) (B : Bool) : Prop :=
  (∀ x ∈ L, -9223372036854775808 ≤ x ∧ x ≤ 9223372036854775807) ∧ (0 ≤ n → RestOK k c b n.toNat (if B = true then some (L.map (mkN k) ++ T.map (mkT k)) else none))
theorem said1 {k : Int} {b : List UInt8} {n : Int} {l : List Int} (hkw : (Lit.int .i64 k).wf = true) (h : rgetR b n = some l) : l.length ≤ 256 ∧ Said14 k 1 b n l [] true := by
  have hn : 0 ≤ n ∧ n ≤ 256 := by
    unfold rgetR at h
    split at h
    · cases h
    · omega
  obtain ⟨N, rfl⟩ : ∃ N : Nat, n = (N : Int) := ⟨n.toNat, by omega⟩
  have hf := rgetR_facts h
  refine ⟨by omega, hf.2, fun _ => ?_⟩
  have := restOK1 hkw b N
  rw [h] at this
  simpa using this
theorem said1n {k : Int} {b : List UInt8} {n : Int} (hkw : (Lit.int .i64 k).wf = true) (h : rgetR b n = none) : Said14 k 1 b n [] [] false := by
  refine ⟨fun x hx => by simp at hx, fun hn => ?_⟩
  obtain ⟨N, rfl⟩ : ∃ N : Nat, n = (N : Int) := ⟨n.toNat, by omega⟩
  have := restOK1 hkw b N
  rw [h] at this
  simpa using this
theorem said2 {k : Int} {b : List UInt8} {n : Int} {l : List Int} (hkw : (Lit.int .i64 k).wf = true) (h : bitsGet b n = some l) : l.length ≤ 256 ∧ Said14 k 2 b n l [] true := by
  have hn : 0 ≤ n ∧ n ≤ 256 := by
    unfold bitsGet at h
    split at h
    · cases h
    · omega
  obtain ⟨N, rfl⟩ : ∃ N : Nat, n = (N : Int) := ⟨n.toNat, by omega⟩
  have hf := bitsGet_facts h
  refine ⟨by omega, hf.2, fun _ => ?_⟩
  have := restOK2 hkw b N
  rw [h] at this
  simpa using this
theorem said2n {k : Int} {b : List UInt8} {n : Int} (hkw : (Lit.int .i64 k).wf = true) (h : bitsGet b n = none) : Said14 k 2 b n [] [] false := by
  refine ⟨fun x hx => by simp at hx, fun hn => ?_⟩
  obtain ⟨N, rfl⟩ : ∃ N : Nat, n = (N : Int) := ⟨n.toNat, by omega⟩
  have := restOK2 hkw b N
  rw [h] at this
  simpa using this
theorem said3 {k : Int} {b : List UInt8} {n : Int} {l : List Tx} (hkw : (Lit.int .i64 k).wf = true) (h : dgetL b n = some l) : l.length ≤ 256 ∧ Said14 k 3 b n [] l true := by
  have hn : 0 ≤ n ∧ n ≤ 256 := by
    unfold dgetL at h
    split at h
    · cases h
    · omega
  obtain ⟨N, rfl⟩ : ∃ N : Nat, n = (N : Int) := ⟨n.toNat, by omega⟩
  have hf := dgetL_len h
  refine ⟨by omega, fun x hx => by simp at hx, fun _ => ?_⟩
  have := restOK3 hkw b N
  rw [h] at this
  simpa using this
theorem said3n {k : Int} {b : List UInt8} {n : Int} (hkw : (Lit.int .i64 k).wf = true) (h : dgetL b n = none) : Said14 k 3 b n [] [] false := by
  refine ⟨fun x hx => by simp at hx, fun hn => ?_⟩
  obtain ⟨N, rfl⟩ : ∃ N : Nat, n = (N : Int) := ⟨n.toNat, by omega⟩
  have := restOK3 hkw b N
  rw [h] at this
  simpa using this
theorem said4 {k : Int} {b : List UInt8} {n : Int} {c : Nat} (h : 3 < c) : Said14 k c b n [] [] false :=
  ⟨fun x hx => by simp at hx, fun hn => by simpa using restOK_none (k := k) b n.toNat h⟩
theorem wrap_u64of {x : Int} (h : -9223372036854775808 ≤ x ∧ x ≤ 9223372036854775807) : IntKind.u64.wrap x = (u64of x : Int) := by rw [IntKind.wrap_u64]; unfold u64of; split <;> omega

set_option maxHeartbeats 8000000 in
theorem unrest_any (k : Int) (cd : Nat) (a : Option Addr) (m c : Nat) (b : List UInt8) (n : Int) (w : World) (hkw : (Lit.int .i64 k).wf = true) (hcd : cd < 256) (hs : Sl w a m c (b.map byteV)) (hm : m ≤ 100000) (hn : n ≤ 256) (hnw : (Lit.int .i64 n).wf = true) :
    Calls Tryz.prog 14 #[.int .i64 k, .int .u8 (cd : Int), .slice a m c, .int .i64 n] w (RestPost k cd b n w) := by
  go_enter Tryz.func14, Tryz.ntmps14
  go_upto_block 0 with fail
  go_cut [10, 11, 12] (fun tl ts tb wx => ∃ (al : Option Addr) (nl cl : Nat) (L : List Int) (at_ : Option Addr) (ns cs : Nat) (T : List Tx) (B : Bool), tl = .slice al nl cl ∧ Sl wx al nl cl (L.map intV) ∧ nl ≤ 256 ∧ ts = .slice at_ ns cs ∧ Sl wx at_ ns cs (T.map txV) ∧ ns ≤ 256 ∧ tb = .bool B ∧ Keeps No w wx ∧ Hid (Said14 k cd b n L T B))
  case first =>
    by_cases h0 : cd = 0
    · subst h0
      go_wp2_with fail
      refine (unplain_any k a m c b n w hkw hs hm hn).mono ?_
      rintro e w1 ⟨r, v, B, rfl, hk1, h1, h2, h3⟩
      go_wp2_with fail
      go_ret2
      exact ⟨r, v, B, rfl, hk1, h1, h2, h3⟩
    by_cases h1 : cd = 1
    · subst h1
      go_wp2_with fail
      refine (rget_any a m c b n w hs (by omega) hnw).mono ?_
      intro e w1 hp
      cases hr : rgetR b n with
      | none =>
        obtain ⟨rfl, hk1⟩ := hp.outNo hr
        have HS := Lib.hid (said1n hkw hr)
        clear hr hp
        go_wp2_with fail
        go_meet
        exact ⟨_, _, _, [], _, _, _, [], false, rfl, Sl.none _, by omega, rfl, Sl.none _, by omega, rfl, hk1, HS⟩
      | some l =>
        obtain ⟨a1, c1, rfl, hs1, hk1⟩ := hp.outOk hr
        have HS := Lib.hid (said1 hkw hr)
        clear hr hp
        go_wp2_with fail
        go_meet
        exact ⟨_, _, _, l, _, _, _, [], true, rfl, hs1, HS.out.1, rfl, Sl.none _, by omega, rfl, hk1, Lib.hid HS.out.2⟩
    by_cases h2 : cd = 2
    · subst h2
      go_wp2_with fail
      refine (bget_any a m c b n w hs (by omega) hnw).mono ?_
      intro e w1 hp
      cases hr : bitsGet b n with
      | none =>
        obtain ⟨rfl, hk1⟩ := hp.outNo hr
        have HS := Lib.hid (said2n hkw hr)
        clear hr hp
        go_wp2_with fail
        go_meet
        exact ⟨_, _, _, [], _, _, _, [], false, rfl, Sl.none _, by omega, rfl, Sl.none _, by omega, rfl, hk1, HS⟩
      | some l =>
        obtain ⟨a1, c1, rfl, hs1, hk1⟩ := hp.outOk hr
        have HS := Lib.hid (said2 hkw hr)
        clear hr hp
        go_wp2_with fail
        go_meet
        exact ⟨_, _, _, l, _, _, _, [], true, rfl, hs1, HS.out.1, rfl, Sl.none _, by omega, rfl, hk1, Lib.hid HS.out.2⟩
    by_cases h3 : cd = 3
    · subst h3
      go_wp2_with fail
      refine (dget_any a m c b n w hs (by omega) hnw).mono ?_
      intro e w1 hp
      cases hr : dgetL b n with
      | none =>
        obtain ⟨rfl, hk1⟩ := hp.outNo hr
        have HS := Lib.hid (said3n hkw hr)
        clear hr hp
        go_wp2_with fail
        go_meet
        exact ⟨_, _, _, [], _, _, _, [], false, rfl, Sl.none _, by omega, rfl, Sl.none _, by omega, rfl, hk1, HS⟩
      | some l =>
        obtain ⟨a1, c1, rfl, hs1, hk1⟩ := hp.outOk hr
        have HS := Lib.hid (said3 hkw hr)
        clear hr hp
        go_wp2_with fail
        go_meet
        exact ⟨_, _, _, [], _, _, _, l, true, rfl, Sl.none _, by omega, rfl, hs1, HS.out.1, rfl, hk1, Lib.hid HS.out.2⟩
    have e0 : ((cd : Int) == 0) = false := by rw [beq_eq_false_iff_ne]; omega
    have e1 : ((cd : Int) == 1) = false := by rw [beq_eq_false_iff_ne]; omega
    have e2 : ((cd : Int) == 2) = false := by rw [beq_eq_false_iff_ne]; omega
    have e3 : ((cd : Int) == 3) = false := by rw [beq_eq_false_iff_ne]; omega
    have HS : Hid (Said14 k cd b n [] [] false) := Lib.hid (said4 (by omega))
    clear h0 h1 h2 h3
    go_wp2_with fail
    go_meet
    exact ⟨_, _, _, [], _, _, _, [], false, rfl, Sl.none _, by omega, rfl, Sl.none _, by omega, rfl, Keeps.refl _ _, HS⟩
  case rest =>
    obtain ⟨al, nl, cl, L, at_, ns, cs, T, B, rfl, hsL, hnl, rfl, hsT, hns, rfl, hkc, HS⟩ := hcut
    have hlenL : L.length = nl := by simpa using hsL.len
    have hlenT : T.length = ns := by simpa using hsT.len
    have HlenL := Lib.hid hlenL
    have HlenT := Lib.hid hlenT
    have hLr := HS.out.1
    have HLr := Lib.hid hLr
    clear hlenL hlenT hLr
    go_wp2_with fail
    go_loopg [54, 13] nl (fun q i bv wr => ∃ (j : Nat) (X : List Va), j ≤ nl ∧ q = nl - j ∧ i = .int .i64 (j : Int) ∧ Hid (X = (L.take j).map (mkN k)) ∧ X.length = j ∧ wr.ownsRow wc.heap.size 32 4 bv j (X.map Va.cells).flatten ∧ Keeps No wc wr)
    case atStart => exact ⟨0, [], Nat.zero_le _, rfl, rfl, Lib.hid rfl, rfl, World.ownsRow_nil _ _ _ _, Keeps.refl _ _⟩
    case round =>
      obtain ⟨j, X, hj, hq, rfl, HX, hXl, hown, hkr⟩ := hrel
      have Hq := Lib.hid hq
      have HXl := Lib.hid hXl
      have hzr := hkr.size
      clear hq hXl
      by_cases hlt : j < nl
      · have hlt' : j < L.length := by rw [HlenL.out]; exact hlt
        have hsr := hsL.kept hkr
        have hix := hsr.ix (P := Tryz.prog) Tryz.underlying63 (by kernel_rfl) hlt .i64
        have hcm := hsr.at_ hlt
        obtain ⟨x, hx⟩ : ∃ x, x = L[j] := ⟨_, rfl⟩
        have hbv : (L.map intV).getD j undef = .int .i64 x := by rw [hx]; simp [hlt', intV]
        rw [hbv] at hcm
        have hxr := HLr.out x (by rw [hx]; exact List.getElem_mem hlt')
        have htk : (L.take (j + 1)).map (mkN k) = (L.take j).map (mkN k) ++ [mkN k x] := by rw [List.take_succ_eq_append_getElem hlt', List.map_append, hx]; rfl
        have Htk := Lib.hid htk
        clear hx hbv htk
        by_cases h4 : k = 4
        · have hmk : mkN k x = ⟨k, 0, ByteArray.empty, u64of x⟩ := by unfold mkN; rw [if_pos h4]
          have hu := wrap_u64of hxr
          subst h4
          have Hmk := Lib.hid hmk
          clear hmk
          have hkA : Keeps No wr (wr.alloc (.cells #[.int .i64 4, .int .i64 0, .string ⟨#[]⟩, .int .u64 (u64of x : Int)] 32)) := (Keeps.refl No wr).alloc _
          have hkB : Keeps No wr ((wr.alloc (.cells #[.int .i64 4, .int .i64 0, .string ⟨#[]⟩, .int .u64 (u64of x : Int)] 32)).alloc (.cells #[.int .i64 4, .int .i64 0, .string ⟨#[]⟩, .int .u64 (u64of x : Int)] 32)) := hkA.alloc _
          have hownB := hkB.own hown (fun _ _ => not_No _)
          have hone := SlK.one (wr.alloc (.cells #[.int .i64 4, .int .i64 0, .string ⟨#[]⟩, .int .u64 (u64of x : Int)] 32)) (Va.cells ⟨4, 0, ⟨#[]⟩, u64of x⟩) 32 (k := 4) rfl
          rw [show (wr.alloc (.cells #[.int .i64 4, .int .i64 0, .string ⟨#[]⟩, .int .u64 (u64of x : Int)] 32)).heap.size = wr.heap.size + 1 by simp] at hone
          go_wp2_with (at_builtin; go_loud (refine app_ownK rfl _ _ 25 rfl wc.heap.size 32 _ 4 40 Tryz.underlying25 val_info rfl (by decide) (by decide) _ j (X.map Va.cells).flatten rfl hownB _ 1 1 [Va.cells ⟨4, 0, ⟨#[]⟩, u64of x⟩] rfl hone ?h1 ?hb ?hB ?_))
          case h1 => exact vals_one [⟨4, 0, ⟨#[]⟩, u64of x⟩]
          case hb => omega
          case hB => simp; omega
          intro v7 w7 hown7 hg7 _
          go_wp2_with fail
          go_roundg (nl - (j + 1))
          case measure => have := Hq.out; omega
          case rel =>
            refine ⟨j + 1, X ++ [⟨4, 0, ⟨#[]⟩, u64of x⟩], by omega, rfl, by go_num, Lib.hid (by rw [Htk.out, HX.out, Hmk.out]; rfl), by rw [List.length_append, HXl.out]; rfl, ?_, (hkr.transNo hkB).grown hg7 (fun i hi hlt2 => by have := (hown.lt i hi).1; exact absurd hlt2 (by omega))⟩
            rw [List.map_append, List.flatten_append]; exact hown7
        · have hmk : mkN k x = ⟨k, x, ByteArray.empty, 0⟩ := by unfold mkN; rw [if_neg h4]
          have e4 : (k == 4) = false := by simp [h4]
          have Hmk := Lib.hid hmk
          clear hmk h4
          have hkA : Keeps No wr (wr.alloc (.cells #[.int .i64 k, .int .i64 x, .string ⟨#[]⟩, .int .u64 0] 32)) := (Keeps.refl No wr).alloc _
          have hkB : Keeps No wr ((wr.alloc (.cells #[.int .i64 k, .int .i64 x, .string ⟨#[]⟩, .int .u64 0] 32)).alloc (.cells #[.int .i64 k, .int .i64 x, .string ⟨#[]⟩, .int .u64 0] 32)) := hkA.alloc _
          have hownB := hkB.own hown (fun _ _ => not_No _)
          have hone := SlK.one (wr.alloc (.cells #[.int .i64 k, .int .i64 x, .string ⟨#[]⟩, .int .u64 0] 32)) (Va.cells ⟨k, x, ⟨#[]⟩, 0⟩) 32 (k := 4) rfl
          rw [show (wr.alloc (.cells #[.int .i64 k, .int .i64 x, .string ⟨#[]⟩, .int .u64 0] 32)).heap.size = wr.heap.size + 1 by simp] at hone
          go_wp2_with (at_builtin; go_loud (refine app_ownK rfl _ _ 25 rfl wc.heap.size 32 _ 4 40 Tryz.underlying25 val_info rfl (by decide) (by decide) _ j (X.map Va.cells).flatten rfl hownB _ 1 1 [Va.cells ⟨k, x, ⟨#[]⟩, 0⟩] rfl hone ?h1 ?hb ?hB ?_))
          case h1 => exact vals_one [⟨k, x, ⟨#[]⟩, 0⟩]
          case hb => omega
          case hB => simp; omega
          intro v7 w7 hown7 hg7 _
          go_wp2_with fail
          go_roundg (nl - (j + 1))
          case measure => have := Hq.out; omega
          case rel =>
            refine ⟨j + 1, X ++ [⟨k, x, ⟨#[]⟩, 0⟩], by omega, rfl, by go_num, Lib.hid (by rw [Htk.out, HX.out, Hmk.out]; rfl), by rw [List.length_append, HXl.out]; rfl, ?_, (hkr.transNo hkB).grown hg7 (fun i hi hlt2 => by have := (hown.lt i hi).1; exact absurd hlt2 (by omega))⟩
            rw [List.map_append, List.flatten_append]; exact hown7
      · obtain rfl : j = nl := by omega
        have hXL : X = L.map (mkN k) := by rw [HX.out, List.take_of_length_le (by rw [HlenL.out]; exact Nat.le_refl _)]
        have HXL := Lib.hid hXL
        have hXl := HXl.out
        have HXl2 := Lib.hid hXl
        clear hXL HX hXl
        obtain ⟨W, hW⟩ : ∃ x, x = wr := ⟨_, rfl⟩
        subst hW
        go_wp2_with fail
        go_loopg [74, 13] ns (fun q i bv wr => ∃ (t : Nat) (Y : List Va), t ≤ ns ∧ q = ns - t ∧ i = .int .i64 (t : Int) ∧ Hid (Y = X ++ (T.take t).map (mkT k)) ∧ Y.length = j + t ∧ wr.ownsRow wc.heap.size 32 4 bv (j + t) (Y.map Va.cells).flatten ∧ Keeps No wc wr)
        case atStart => exact ⟨0, X, Nat.zero_le _, rfl, rfl, Lib.hid (by simp), HXl2.out, hown, hkr⟩
        case round =>
          obtain ⟨t, Y, ht, hq2, rfl, HY, hYl, hown2, hkr2⟩ := hrel
          have Hq2 := Lib.hid hq2
          have HYl := Lib.hid hYl
          have hzr2 := hkr2.size
          clear hq2 hYl
          by_cases hlt2 : t < ns
          · have hlt' : t < T.length := by rw [HlenT.out]; exact hlt2
            have hsr := hsT.kept hkr2
            have hix := hsr.ix (P := Tryz.prog) Tryz.underlying64 (by kernel_rfl) hlt2 .i64
            have hcm := hsr.at_ hlt2
            obtain ⟨x, hx⟩ : ∃ x, x = T[t] := ⟨_, rfl⟩
            have hbv : (T.map txV).getD t undef = .string ⟨x.toArray⟩ := by rw [hx]; simp [hlt', txV]
            rw [hbv] at hcm
            have htk : (T.take (t + 1)).map (mkT k) = (T.take t).map (mkT k) ++ [mkT k x] := by rw [List.take_succ_eq_append_getElem hlt', List.map_append, hx]; rfl
            have Htk := Lib.hid htk
            clear hx hbv htk
            have hkB : Keeps No wr (wr.alloc (.cells #[.int .i64 k, .int .i64 0, .string ⟨x.toArray⟩, .int .u64 0] 32)) := (Keeps.refl No wr).alloc _
            have hownB := hkB.own hown2 (fun _ _ => not_No _)
            go_wp2_with (at_builtin; go_loud (refine app_ownK rfl _ _ 25 rfl wc.heap.size 32 _ 4 40 Tryz.underlying25 val_info rfl (by decide) (by decide) _ (j + t) (Y.map Va.cells).flatten rfl hownB _ 1 1 [Va.cells (mkT k x)] rfl (SlK.one _ (Va.cells (mkT k x)) _ rfl) ?h1 ?hb ?hB ?_))
            case h1 => exact vals_one [mkT k x]
            case hb => omega
            case hB => simp; omega
            intro v7 w7 hown7 hg7 _
            go_wp2_with fail
            go_roundg (ns - (t + 1))
            case measure => have := Hq2.out; omega
            case rel =>
              refine ⟨t + 1, Y ++ [mkT k x], by omega, rfl, by go_num, Lib.hid (by rw [Htk.out, HY.out, List.append_assoc]), by rw [List.length_append, HYl.out]; rfl, ?_, (hkr2.transNo hkB).grown hg7 (fun i hi hlt2 => by have := (hown2.lt i hi).1; exact absurd hlt2 (by omega))⟩
              rw [List.map_append, List.flatten_append]; exact hown7
          · obtain rfl : t = ns := by omega
            go_wp2_with fail
            go_ret2
            have hYT : Y = L.map (mkN k) ++ T.map (mkT k) := by rw [HY.out, HXL.out, List.take_of_length_le (by rw [HlenT.out]; exact Nat.le_refl _)]
            have hsd := HS.out.2
            rw [← hYT] at hsd
            cases B with
            | false => exact ⟨none, _, _, rfl, hkc.transNo hkr2, hsd, fun _ => rfl, fun Z hZ => by cases hZ⟩
            | true =>
              refine ⟨some Y, _, _, rfl, hkc.transNo hkr2, hsd, (fun h => (by cases h)), fun Z hZ => ?_⟩
              injection hZ with hZ; subst hZ
              refine ⟨rfl, ?_⟩
              rw [HYl.out]
              exact own_le hown2 hkc.size
end Go.Proofs.YthbipcjgpocpaaaGreat
/- Layer 14: the walk of Get. -/
namespace Go.Proofs.YthbipcjgpocpaaaGreat
open Go.RowKit
set_option linter.unusedSimpArgs false
set_option linter.unusedVariables false
set_option maxRecDepth 100000

/-- What Get answers. -/
def ColGetPost (b : List UInt8) (w : World) (e : Ending) (w' : World) : Prop :=
  ∃ r, ColOK b r ∧ Keeps No w w' ∧ ((r = none ∧ e = .returned (.tuple #[.int .i64 0, .slice none 0 0, .bool false])) ∨
    (∃ k L v, r = some (k, L) ∧ e = .returned (.tuple #[.int .i64 k, v, .bool true]) ∧ w'.ownsRow w.heap.size 32 4 v L.length (L.map Va.cells).flatten))
theorem ColGetPost.no {b : List UInt8} {w w' : World} (h : ∀ k L, rightC k L = true → (∀ v ∈ L, v.wf) → colPut k L ≠ b) (hk : Keeps No w w') : ColGetPost b w (.returned (.tuple #[.int .i64 0, .slice none 0 0, .bool false])) w' :=
  ⟨none, ColOK.none h, hk, .inl ⟨rfl, rfl⟩⟩

theorem col_parse {k : Int} {L : List Va} {b : List UInt8} {V : Nat} {B1 B2 B3 : Bool} {K C : UInt8} {st1 st2 st3 : Option (List UInt8)} (h : rightC k L = true) (hb : colPut k L = b) (h1 : NatQ (some b) V B1 st1) (h2 : ByteQ st1 K B2 st2) (h3 : ByteQ st2 C B3 st3) :
    V = L.length ∧ B3 = true ∧ (K.toNat : Int) = k ∧ C.toNat = codeC (restC k (fullC L)) := by
  have hr := col_read h
  rw [hb] at hr
  have hr' : rdNat (some b) = _ := hr
  have hk := (rightC_iff.1 h).1
  cases B1 with
  | false => have := (h1.2.1 rfl).1; rw [hr'] at this; cases this
  | true =>
    obtain ⟨r, e1, e2⟩ := h1.1 rfl
    rw [hr'] at e1
    injection e1 with e1; injection e1 with e3 e4
    subst e2
    rw [← e4] at h2
    cases B2 with
    | false =>
      obtain ⟨_, h' | h'⟩ := h2.2 rfl <;> cases h'
    | true =>
      obtain ⟨r2, e5, e6⟩ := h2.1 rfl
      injection e5 with e5; injection e5 with e7 e8
      subst e6
      rw [← e8] at h3
      cases B3 with
      | false =>
        obtain ⟨_, h' | h'⟩ := h3.2 rfl <;> cases h'
      | true =>
        obtain ⟨r3, e9, e10⟩ := h3.1 rfl
        injection e9 with e9; injection e9 with e11 e12
        refine ⟨e3.symm, rfl, ?_, ?_⟩
        · rw [← e7]; exact kind_byte ⟨hk.1, hk.2.1⟩
        · rw [← e11]; exact code_byte _

theorem SlK.tail {P : Program} {w : World} {sz n c : Nat} {a : Option Addr} {xs : List (List Value)} (h : SlK w sz a n c xs) {T e : TypeId} (hu : P.underlying T = some (.slice e)) (hz : (P.info? e).map (·.size) = some sz) (hn : 0 < n) (kd : IntKind) :
    ∃ a2, (∀ wx, (Instr.sliceAt T (.slice a n c) (some (.int kd 1)) Option.none Option.none).run P wx = .ok (.slice a2 (n - 1) (c - 1)) wx) ∧ (∀ wx, (Instr.slice T (.slice a n c) (some (.int kd 1)) Option.none Option.none).run P wx = .ok (.slice a2 (n - 1) (c - 1)) wx) ∧ SlK w sz a2 (n - 1) (c - 1) (xs.drop 1) := by
  obtain ⟨f, hf, hf1⟩ := Option.map_eq_some_iff.1 hz
  have he : P.elem T = e := by simp [Program.elem, hu]
  have hle := h.le
  have hrun : ∀ wx, (Instr.slice T (.slice a n c) (some (.int kd 1)) Option.none Option.none).run P wx = .ok (.slice (if c = 1 then a else a.map (·.add sz)) (n - 1) (c - 1)) wx := by
    intro wx
    have := run_slice_l (P := P) wx T a n c (by rw [he]; exact hu) kd (1 : Int) (by omega) (by omega)
    rw [this]
    simp [sizeOf, typeInfo, he, hf, hf1, Result.andThen, sliced]
  refine ⟨_, fun wx => ?_, hrun, ⟨by simp [h.len], by omega, by have := h.max; omega, ?_, fun x hx => h.wide x (List.mem_of_mem_drop hx), fun i hi j hj => ?_⟩⟩
  · rw [run_sliceAt_slice (P := P) wx T _ _ _ _ (by rw [he]; exact hu)]
    exact hrun wx
  · intro hn'
    split at hn'
    · have := h.nil hn'; omega
    · simp at hn'
      have := h.nil hn'; omega
  · have h1 : ¬ c = 1 := by omega
    rw [if_neg h1]
    have hs := h.isSome (i := i + 1) (by omega)
    have hc := h.cell (i + 1) (by omega) j hj
    rw [hs]
    simp only [Option.map_some, Option.getD_some, List.getElem?_drop]
    rw [Addr.add_add, show sz + (i * sz + j) = (i + 1) * sz + j by rw [Nat.add_mul]; omega, hc, Nat.add_comm 1 i]
theorem merge_true (l : List Bool) (X : List Va) {i : Nat} (h : i < l.length) (hb : l[i] = true) : merge (l.drop i) X = Va.zero :: merge (l.drop (i + 1)) X := by
  rw [List.drop_eq_getElem_cons h, hb]; rfl
theorem merge_false (l : List Bool) (X : List Va) {i p : Nat} (h : i < l.length) (hb : l[i] = false) (hp : p < X.length) : merge (l.drop i) (X.drop p) = X.getD p Va.zero :: merge (l.drop (i + 1)) (X.drop (p + 1)) := by
  rw [List.drop_eq_getElem_cons h, hb, List.drop_eq_getElem_cons hp]
  simp [merge, hp]
theorem getBits_len {b : List UInt8} {V : Nat} {l : List Bool} (h : getBits b (V : Int) = some l) : l.length = V := by
  unfold getBits at h
  split at h
  · cases h
  split at h
  · cases h
  injection h with h
  subst h
  simp [getTo]
theorem count_split (l : List Bool) : l.count true + l.count false = l.length := by
  induction l with
  | nil => rfl
  | cons x t ih => cases x <;> simp <;> omega

/-- bitmap.Get, without a case split. -/
theorem bmget_q (a : Option Addr) (m c : Nat) (b : List UInt8) (n : Int) (w : World) (hs : Sl w a m c (b.map byteV)) (hm : m ≤ 17592186044416) (hn : (Lit.int .i64 n).wf = true) :
    Calls Tryz.prog 13 #[.slice a m c, .int .i64 n] w fun e w' => ∃ (an : Option Addr) (cn : Nat) (l : List Bool) (B : Bool), e = .returned (.tuple #[.slice an l.length cn, .bool B]) ∧ Sl w' an l.length cn (l.map Value.bool) ∧ Keeps No w w' ∧ (B = true → getBits b n = some l) ∧ (B = false → getBits b n = none ∧ l = []) := by
  refine (get_any a m c b n w hs hm hn).mono ?_
  intro e w1 hp
  unfold GetPost at hp
  cases hr : getBits b n with
  | none =>
    rw [hr] at hp
    obtain ⟨rfl, hk⟩ := hp
    exact ⟨_, _, [], false, rfl, Sl.none _, hk, (fun h => (by cases h)), fun _ => ⟨rfl, rfl⟩⟩
  | some l =>
    rw [hr] at hp
    obtain ⟨v, rfl, ho, hk⟩ := hp
    obtain ⟨a1, c1, rfl, hs1, _⟩ := Sl.ofOwn ho
    exact ⟨a1, c1, l, true, rfl, hs1, hk, fun _ => rfl, (fun h => (by cases h))⟩

set_option maxHeartbeats 8000000 in
theorem colget_any (a : Option Addr) (m c : Nat) (b : List UInt8) (w : World) (hs : Sl w a m c (b.map byteV)) (hm : m ≤ 100000) :
    Calls Tryz.prog 5 #[.slice a m c] w (ColGetPost b w) := by
  have hlen : b.length = m := by simpa using hs.len
  have Hlen := Lib.hid hlen
  clear hlen
  go_enter Tryz.func5, Tryz.ntmps5
  go_wp2_with fail
  refine (open_any a m c b w hs (by omega)).mono ?_
  rintro e w1 ⟨rb, sb, rfl, hrd, hrb, hsb, hrb1, hsb1, hk1⟩
  have hrds : Rds w1 rb sb (some b) := hrd
  clear hrd
  go_wp2_with fail
  refine (rnatural_q rb sb _ _ hrds).mono ?_
  rintro e w2 ⟨V, B1, st1, rfl, hrd2, hk2, hq1⟩
  go_wp2_with fail
  refine (byte_q rb sb _ _ hrd2).mono ?_
  rintro e w3 ⟨Kb, B2, st2, rfl, hrd3, hk3, hq2⟩
  go_wp2_with fail
  refine (byte_q rb sb _ _ hrd3).mono ?_
  rintro e w4 ⟨C, B3, st3, rfl, hrd4, hk4, hq3⟩
  have hV := hq1.2.2
  have hparse := fun k L h hb => col_parse (k := k) (L := L) h hb hq1 hq2 hq3
  have Hparse := Lib.hid hparse
  have hk04 : Keeps No w w4 := ((hk1.trans hk2 (fun i hi e => by omega)).trans hk3 (fun i hi e => by omega)).trans hk4 (fun i hi e => by omega)
  clear hparse hq1 hq2 hq3 hrds hrd2 hrd3 hrd4 hk1 hk2 hk3 hk4 hrb hsb hrb1 hsb1
  go_wp2_with fail
  refine (natural_any none 0 0 [] V w4 (Sl.none _) (by omega) hV).mono ?_
  rintro e w5 ⟨v5, rfl, hown5, hk5⟩
  obtain ⟨a5, c5, rfl, hs5, _⟩ := Sl.ofOwn hown5
  have hk05 := hk04.transNo hk5
  have h7 := nat7_len64 V hV
  cases B3 with
  | false =>
    go_wp2_with fail
    go_ret3
    exact ColGetPost.no (fun k L h1 h2 h3 => by have := (Hparse.out k L h1 h3).2.1; cases this) hk05
  | true =>
  by_cases hbig : 256 < V
  · go_wp2_with fail
    go_ret3
    exact ColGetPost.no (fun k L h1 h2 h3 => by have := (Hparse.out k L h1 h3).1; have := (rightC_iff.1 h1).1.2.2; omega) hk05
  go_upto_region 9 with fail
  obtain ⟨H, hH⟩ : ∃ H : Nat, H = (nat7 V).length + 2 := ⟨_, rfl⟩
  have hHi : ((nat7 V).length : Int) + 2 = (H : Int) := by omega
  obtain ⟨Z, hZ⟩ : ∃ Z : Nat, Z = (V + 7) / 8 := ⟨_, rfl⟩
  have hZi : ((V : Int) + 7) / 8 = (Z : Int) := by omega
  rw [hHi, hZi]
  have hH12 : H ≤ 12 := by omega
  have hZ33 : Z ≤ 33 := by omega
  have HH := Lib.hid hH
  have HZ := Lib.hid hZ
  clear hH hHi hZ hZi hs5 hown5
  by_cases hfit : m < H + Z
  · go_wp2_with fail
    go_ret3
    exact ColGetPost.no (fun k L h1 h2 h3 => by
      have e := (Hparse.out k L h1 h3).1
      have hsz := col_size (k := k) (L := L)
      rw [h3, ← e, ← HH.out, ← HZ.out, Hlen.out] at hsz
      omega) hk05
  have hs05 := hs.kept hk05
  obtain ⟨am, hrm1, hrm2, hsm⟩ := hs05.mid (P := Tryz.prog) (T := 22) Tryz.underlying22 (by kernel_rfl) (lo := H) (hi := H + Z) (by omega) (by omega) .i64 .i64 (H : Int) ((H : Int) + (Z : Int)) rfl (by omega)
  rw [Nat.add_sub_cancel_left] at hrm1 hrm2 hsm
  obtain ⟨nb, hnb⟩ : ∃ nb, nb = (b.drop H).take Z := ⟨_, rfl⟩
  have hsm' : Sl w5 am Z (c - H) (nb.map byteV) := by rw [hnb, List.map_take, List.map_drop]; exact hsm
  have Hnb := Lib.hid hnb
  have HVi : (V : Int) ≤ 256 := by omega
  clear hsm hnb
  have hVw : (Lit.int .i64 (V : Int)).wf = true := wf_nat V (by omega)
  go_wp2_with fail
  refine (bmget_q am Z (c - H) nb (V : Int) w5 hsm' (by omega) hVw).mono ?_
  rintro e w6 ⟨an, cn, l, B4, rfl, hsl, hk6, hB4, hB4'⟩
  have hk06 := hk05.transNo hk6
  have hs06 := hs.kept hk06
  have hsm6 := hsm'.kept hk6
  have hK := Kb.toNat_lt
  have hC := C.toNat_lt
  have hkk : IntKind.i64.wrap (Kb.toNat : Int) = (Kb.toNat : Int) := by rw [IntKind.wrap_i64]; omega
  have hvv : IntKind.i64.wrap (V : Int) = (V : Int) := by rw [IntKind.wrap_i64]; omega
  have hhz : IntKind.i64.wrap ((H : Int) + (Z : Int)) = (H : Int) + (Z : Int) := by rw [IntKind.wrap_i64]; omega
  obtain ⟨an2, hrf1, hrf2, hsf, _⟩ := hs06.from_ (P := Tryz.prog) (T := 22) Tryz.underlying22 (by kernel_rfl) (k := H + Z) (by omega) .i64 ((H : Int) + (Z : Int)) (by omega)
  obtain ⟨am3, hrn1, hrn2, hsn⟩ := hs06.mid (P := Tryz.prog) (T := 22) Tryz.underlying22 (by kernel_rfl) (lo := H) (hi := H + Z) (by omega) (by omega) .i64 .i64 (H : Int) ((H : Int) + (Z : Int)) rfl (by omega)
  rw [Nat.add_sub_cancel_left] at hrn1 hrn2 hsn
  have hsn' : Sl w6 am3 Z (c - H) (nb.map byteV) := by rw [Hnb.out, List.map_take, List.map_drop]; exact hsn
  have hsf' : Sl w6 an2 (m - (H + Z)) (c - (H + Z)) ((b.drop (H + Z)).map byteV) := by rw [List.map_drop]; exact hsf
  have hpop := popAll_le nb
  have hnbl : nb.length = Z := by simpa using hsn'.len
  rw [hnbl] at hpop
  have HB4 := Lib.hid hB4
  have HB4' := Lib.hid hB4'
  clear hsf hsn hrm1 hrm2 hB4 hB4' hnbl hsm'
  obtain ⟨po, hpo⟩ : ∃ po, po = popAll nb := ⟨_, rfl⟩
  rw [← hpo] at hpop
  have hsub : IntKind.i64.wrap ((V : Int) - (po : Int)) = (V : Int) - (po : Int) := by rw [IntKind.wrap_i64]; omega
  have Hpo := Lib.hid hpo
  clear hpo
  go_wp2_with fail
  refine wp_region_held_drew (S := fun wx => Keeps No w6 wx) (by kernel_rfl) ((Keeps.refl No w6).drew) (fun hS => ?_)
  refine tk (i := 0) (oi := ⟨some 72, _, _, _, _, _⟩) (v := ?_) rfl (by kernel_rfl) (fun _ _ _ h => h) (by assumption) (by rfl) (fun w hSw => ?_) ?_; rotate_left; (focus (first | (go_simp; done) | (go_simp; with_reducible rfl))); simp only [Act.put, List.setIfInBounds_toArray, List.set_cons_zero, List.set_cons_succ]
  refine tk (i := 1) (oi := ⟨some 73, _, _, _, _, _⟩) (v := ?_) rfl (by kernel_rfl) (fun _ _ _ h => h) (by assumption) (by rfl) (fun w hSw => ?_) ?_; rotate_left; (focus (first | (go_simp; done) | (go_simp; with_reducible rfl))); simp only [Act.put, List.setIfInBounds_toArray, List.set_cons_zero, List.set_cons_succ]
  refine tk (i := 2) (oi := ⟨some 74, _, _, _, _, _⟩) (v := ?_) rfl (by kernel_rfl) (fun _ _ _ h => h) (by assumption) (by rfl) (fun w hSw => ?_) ?_; rotate_left; (focus (first | (go_simp; done) | (go_simp; with_reducible rfl))); simp only [Act.put, List.setIfInBounds_toArray, List.set_cons_zero, List.set_cons_succ]
  refine tk (i := 3) (oi := ⟨some 75, _, _, _, _, _⟩) (v := ?_) rfl (by kernel_rfl) (fun _ _ _ h => h) (by assumption) (by rfl) (fun w hSw => ?_) ?_; rotate_left; (focus (first | (go_simp; done) | (go_simp; with_reducible rfl))); simp only [Act.put, List.setIfInBounds_toArray, List.set_cons_zero, List.set_cons_succ]
  refine tk (i := 4) (oi := ⟨some 76, _, _, _, _, _⟩) (v := ?_) rfl (by kernel_rfl) (fun _ _ _ h => h) (by assumption) (by rfl) (fun w hSw => ?_) ?_; rotate_left; (focus (first | (go_simp; done) | (go_simp; with_reducible rfl))); simp only [Act.put, List.setIfInBounds_toArray, List.set_cons_zero, List.set_cons_succ]
  refine tk (i := 5) (oi := ⟨some 77, _, _, _, _, _⟩) (v := ?_) rfl (by kernel_rfl) (fun _ _ _ h => h) (by assumption) (by rfl) (fun w hSw => ?_) ?_; rotate_left; (focus (first | (go_simp; done) | (go_simp; with_reducible rfl))); simp only [Act.put, List.setIfInBounds_toArray, List.set_cons_zero, List.set_cons_succ]
  refine tk (i := 6) (oi := ⟨some 78, _, _, _, _, _⟩) (v := ?_) rfl (by kernel_rfl) (fun _ _ _ h => h) (by assumption) (by rfl) (fun w hSw => ?_) ?_; rotate_left; (focus (first | (go_simp; done) | (go_simp; with_reducible rfl))); simp only [Act.put, List.setIfInBounds_toArray, List.set_cons_zero, List.set_cons_succ]
  refine tk (i := 7) (oi := ⟨some 79, _, _, _, _, _⟩) (v := ?_) rfl (by kernel_rfl) (fun _ _ _ h => h) (by assumption) (by rfl) (fun w hSw => ?_) ?_; rotate_left; (focus (first | (go_simp; done) | (go_simp; with_reducible rfl))); simp only [Act.put, List.setIfInBounds_toArray, List.set_cons_zero, List.set_cons_succ]
  refine tk (i := 8) (oi := ⟨some 80, _, _, _, _, _⟩) (v := ?_) rfl (by kernel_rfl) (fun _ _ _ h => h) (by assumption) (by rfl) (fun w hSw => ?_) ?_; rotate_left; (focus (first | (go_simp; done) | (go_simp; with_reducible rfl))); simp only [Act.put, List.setIfInBounds_toArray, List.set_cons_zero, List.set_cons_succ]
  refine tk (i := 9) (oi := ⟨some 81, _, _, _, _, _⟩) (v := ?_) rfl (by kernel_rfl) (fun _ _ _ h => h) (by assumption) (by rfl) (fun w hSw => ?_) ?_; rotate_left; (focus (first | (go_simp; done) | (go_simp; with_reducible rfl))); simp only [Act.put, List.setIfInBounds_toArray, List.set_cons_zero, List.set_cons_succ]
  refine tk (i := 10) (oi := ⟨some 82, _, _, _, _, _⟩) (v := ?_) rfl (by kernel_rfl) (fun _ _ _ h => h) (by assumption) (by rfl) (fun w hSw => ?_) ?_; rotate_left; (focus (first | (go_simp; done) | (go_simp; with_reducible rfl))); simp only [Act.put, List.setIfInBounds_toArray, List.set_cons_zero, List.set_cons_succ]
  refine tk (i := 11) (oi := ⟨some 83, _, _, _, _, _⟩) (v := ?_) rfl (by kernel_rfl) (fun _ _ _ h => h) (by assumption) (by rfl) (fun w hSw => ?_) ?_; rotate_left; (focus (first | (go_simp; done) | (go_simp; with_reducible rfl))); simp only [Act.put, List.setIfInBounds_toArray, List.set_cons_zero, List.set_cons_succ]
  refine tk (i := 12) (oi := ⟨some 84, _, _, _, _, _⟩) (v := ?_) rfl (by kernel_rfl) (fun _ _ _ h => h) (by assumption) (by rfl) (fun w hSw => ?_) ?_; rotate_left; (focus (first | (go_simp; done) | (go_simp; with_reducible rfl))); simp only [Act.put, List.setIfInBounds_toArray, List.set_cons_zero, List.set_cons_succ]
  refine tk (i := 13) (oi := ⟨some 85, _, _, _, _, _⟩) (v := ?_) rfl (by kernel_rfl) (fun _ _ _ h => h) (by assumption) (by rfl) (fun w hSw => ?_) ?_; rotate_left; (focus (first | (go_simp; done) | (go_simp; with_reducible rfl))); simp only [Act.put, List.setIfInBounds_toArray, List.set_cons_zero, List.set_cons_succ]
  refine tk (i := 14) (oi := ⟨some 86, _, _, _, _, _⟩) (v := ?_) rfl (by kernel_rfl) (fun _ _ _ h => h) (by assumption) (by rfl) (fun w hSw => ?_) ?_; rotate_left; (focus (first | (go_simp; done) | (go_simp; with_reducible rfl))); simp only [Act.put, List.setIfInBounds_toArray, List.set_cons_zero, List.set_cons_succ]
  refine tk (i := 15) (oi := ⟨some 87, _, _, _, _, _⟩) (v := ?_) rfl (by kernel_rfl) (fun _ _ _ h => h) (by assumption) (by rfl) (fun w hSw => ?_) ?_; rotate_left; (focus (first | (go_simp; done) | (go_simp; with_reducible rfl))); simp only [Act.put, List.setIfInBounds_toArray, List.set_cons_zero, List.set_cons_succ]
  refine alone (i := 16) (oi := ⟨some 88, _, _, _, _, _⟩) rfl (by kernel_rfl) (by rfl) (fun K hK => ?_); go_simp
  refine (count_any am3 Z (c - H) nb _ (hsn'.kept hS) (by omega)).mono ?_
  rintro e w7 ⟨rfl, rfl⟩
  rw [← Hpo.out]
  refine hK.out (fun wx => Keeps No w6 wx) _ _ (fun _ h => h) (hS) ?_
  clear hK K hS
  intro hS
  refine tk (i := 17) (oi := ⟨some 89, _, _, _, _, _⟩) (v := ?_) rfl (by kernel_rfl) (fun _ _ _ h => h) (by assumption) (by rfl) (fun w hSw => ?_) ?_; rotate_left; (focus (first | (go_simp; done) | (go_simp; with_reducible rfl))); simp only [Act.put, List.setIfInBounds_toArray, List.set_cons_zero, List.set_cons_succ]
  refine alone (i := 18) (oi := ⟨some 90, _, _, _, _, _⟩) rfl (by kernel_rfl) (by rfl) (fun K hK => ?_); go_simp
  refine (unrest_any (Kb.toNat : Int) C.toNat an2 (m - (H + Z)) (c - (H + Z)) (b.drop (H + Z)) ((V : Int) - (po : Int)) _ (wf_of (by omega)) hC (hsf'.kept hS) (by omega) (by omega) (wf_of (by omega))).mono ?_
  rintro e w8 ⟨r, v8, B5, rfl, hk8, hro, hrn, hrs⟩
  have hk68 := hS.transNo hk8
  refine hK.out (fun wx => Keeps No w6 wx) _ _ (fun _ h => h) (hk68) ?_
  clear hK K hS
  intro hS
  refine tk (i := 19) (oi := ⟨some 71, _, _, _, _, _⟩) (v := ?_) rfl (by kernel_rfl) (fun _ _ _ h => h) (by assumption) (by rfl) (fun w hSw => ?_) ?_; rotate_left; (focus (first | (go_simp; done) | (go_simp; with_reducible rfl))); simp only [Act.put, List.setIfInBounds_toArray, List.set_cons_zero, List.set_cons_succ]
  refine tk (i := 20) (oi := ⟨some 91, _, _, _, _, _⟩) (v := ?_) rfl (by kernel_rfl) (fun _ _ _ h => h) (by assumption) (by rfl) (fun w hSw => ?_) ?_; rotate_left; (focus (first | (go_simp; done) | (go_simp; with_reducible rfl))); simp only [Act.put, List.setIfInBounds_toArray, List.set_cons_zero, List.set_cons_succ]
  refine tk (i := 21) (oi := ⟨some 92, _, _, _, _, _⟩) (v := ?_) rfl (by kernel_rfl) (fun _ _ _ h => h) (by assumption) (by rfl) (fun w hSw => ?_) ?_; rotate_left; (focus (first | (go_simp; done) | (go_simp; with_reducible rfl))); simp only [Act.put, List.setIfInBounds_toArray, List.set_cons_zero, List.set_cons_succ]
  refine tk (i := 22) (oi := ⟨some 15, _, _, _, _, _⟩) (v := ?_) rfl (by kernel_rfl) (fun _ _ _ h => h) (by assumption) (by rfl) (fun w hSw => ?_) ?_; rotate_left; (focus (first | (go_simp; done) | (go_simp; with_reducible rfl))); simp only [Act.put, List.setIfInBounds_toArray, List.set_cons_zero, List.set_cons_succ]
  refine tk (i := 23) (oi := ⟨some 16, _, _, _, _, _⟩) (v := ?_) rfl (by kernel_rfl) (fun _ _ _ h => h) (by assumption) (by rfl) (fun w hSw => ?_) ?_; rotate_left; (focus (first | (go_simp; done) | (go_simp; with_reducible rfl))); simp only [Act.put, List.setIfInBounds_toArray, List.set_cons_zero, List.set_cons_succ]
  refine wpAnyH_done (by kernel_rfl) ?_ _
  have hfin : ∀ k L, rightC k L = true → (∀ v ∈ L, v.wf) → colPut k L = b → B4 = true ∧ l = nullsC L ∧ r = some (fullC L) ∧ (Kb.toNat : Int) = k := by
    intro k L h1 h2 h3
    obtain ⟨p1, p2, p3, p4⟩ := Hparse.out k L h1 h3
    have q1 : nb = putTo (nullsC L) (nullsC L).length := by
      rw [Hnb.out, HH.out, HZ.out, p1, ← h3]; exact col_nulls
    have q2 : getBits nb (V : Int) = some (nullsC L) := by
      have := getBits_put (nullsC L)
      rw [← q1, nullsC_len, ← p1] at this
      exact this
    have q3 : po = (nullsC L).count true := by rw [Hpo.out, q1]; exact pop_put _
    have q4 := count_nulls L
    have q5 : b.drop (H + Z) = bestC k L := by rw [HH.out, HZ.out, p1, ← h3]; exact col_rest
    have q6 : restC k (fullC L) C.toNat = some (bestC k L) := by rw [p4]; exact (bestC_ok k L).1
    have q7 : B4 = true := by
      cases B4 with
      | false => have := (HB4'.out rfl).1; rw [q2] at this; cases this
      | true => rfl
    have q8 : l = nullsC L := by have := HB4.out q7; rw [q2] at this; injection this with this; exact this.symm
    refine ⟨q7, q8, ?_, p3⟩
    have h5 := (hro (by omega)).2 (fullC L) (by rw [p3]; exact fu_of h1 h2) (by omega) (by rw [p3, q5]; exact q6)
    exact h5
  have Hfin := Lib.hid hfin
  have hk08 := hk06.transNo hk68
  have hro1 : ∀ X, r = some X → 0 ≤ (V : Int) - (po : Int) → X.length = ((V : Int) - (po : Int)).toNat ∧ ∀ v ∈ X, v.wf := fun X hX h0 => (hro h0).1 X hX
  clear hro hfin hS
  cases B4 with
  | false =>
    go_wp2_with fail
    go_ret3
    exact ColGetPost.no (fun k L h1 h2 h3 => by have := (Hfin.out k L h1 h2 h3).1; cases this) hk08
  | true =>
  cases B5 with
  | false =>
    have hrn' : r = none := by
      cases r with
      | none => rfl
      | some X => have := (hrs X rfl).1; cases this
    have Hrn := Lib.hid hrn'
    clear hrn' hrn hrs
    go_wp2_with fail
    go_ret3
    exact ColGetPost.no (fun k L h1 h2 h3 => by have := (Hfin.out k L h1 h2 h3).2.2.1; rw [Hrn.out] at this; cases this) hk08
  | true =>
  cases r with
  | none => have := hrn rfl; cases this
  | some X =>
  have hbits := HB4.out rfl
  have hll := getBits_len hbits
  have hpl : po = l.count true := by
    have := put_getBits nb V l hbits
    rw [Hpo.out, ← this]
    exact pop_put l
  have hcs := count_split l
  obtain ⟨hXl, hXw⟩ := hro1 X rfl (by omega)
  have hXlen : X.length = l.count false := by rw [hXl]; omega
  have howx := (hrs X rfl).2
  obtain ⟨ax, cx, rfl, hsX, _⟩ := SlK.ofOwn (k := 4) (by decide) (vals_wide X) howx
  have HXw := Lib.hid hXw
  have HXlen := Lib.hid hXlen
  have Hll := Lib.hid hll
  have hl256 : l.length ≤ 256 := by omega
  have hslw := hsl.kept hk68
  clear hrn hrs hro1 hbits hpl hXl hcs hXlen howx hXw hll
  go_wp2_with fail
  go_loopg [101, 17, 15] l.length (fun q i ov sv wr => ∃ (t p : Nat) (O : List Va) (ay : Option Addr) (cy : Nat), t ≤ l.length ∧ q = l.length - t ∧ i = .int .i64 (t : Int) ∧ Hid (O ++ merge (l.drop t) (X.drop p) = merge l X) ∧ Hid ((l.drop t).count false = X.length - p) ∧ p ≤ X.length ∧ Hid (∀ v ∈ O, v.wf) ∧ O.length = t ∧
      sv = .slice ay (X.length - p) cy ∧ SlK w8 4 ay (X.length - p) cy ((X.drop p).map Va.cells) ∧ wr.ownsRow w8.heap.size 32 4 ov t (O.map Va.cells).flatten ∧ Keeps No w8 wr)
  case atStart => exact ⟨0, 0, [], ax, cx, Nat.zero_le _, rfl, rfl, Lib.hid (by simp), Lib.hid (by simpa using HXlen.out.symm), Nat.zero_le _, Lib.hid (fun v hv => by simp at hv), rfl, rfl, hsX, World.ownsRow_nil _ _ _ _, Keeps.refl _ _⟩
  case round =>
    obtain ⟨t, p, O, ay, cy, ht, hq, rfl, HM, HC, hp, HOw, hOl, rfl, hsy, hown, hkr⟩ := hrel
    have Hq := Lib.hid hq
    have HOl := Lib.hid hOl
    have hzr := hkr.size
    clear hq hOl
    by_cases hlt : t < l.length
    · have hslr := hslw.kept hkr
      have hix := hslr.ix (P := Tryz.prog) Tryz.underlying43 (by kernel_rfl) hlt .i64
      have hcm := hslr.at_ hlt
      obtain ⟨x, hx⟩ : ∃ x, x = l[t] := ⟨_, rfl⟩
      have hbv : (l.map Value.bool).getD t undef = .bool x := by rw [hx]; simp [hlt]
      rw [hbv] at hcm
      have hdr : l.drop t = x :: l.drop (t + 1) := by rw [List.drop_eq_getElem_cons hlt, hx]
      have Hdr := Lib.hid hdr
      have Hx := Lib.hid hx
      clear hbv hdr hx
      cases x with
      | true =>
        have hkB : Keeps No wr (wr.alloc (.cells #[.int .i64 0, .int .i64 0, .string ⟨#[]⟩, .int .u64 0] 32)) := (Keeps.refl No wr).alloc _
        have hownB := hkB.own hown (fun _ _ => not_No _)
        go_wp2_with (at_builtin; go_loud (refine app_ownK rfl _ _ 25 rfl w8.heap.size 32 _ 4 40 Tryz.underlying25 val_info rfl (by decide) (by decide) _ t (O.map Va.cells).flatten rfl hownB _ 1 1 [Va.cells Va.zero] rfl (SlK.one _ (Va.cells Va.zero) _ rfl) ?h1 ?hb ?hB ?_))
        case h1 => exact vals_one [Va.zero]
        case hb => omega
        case hB => simp; omega
        intro v7 w7 hown7 hg7 _
        go_wp2_with fail
        go_roundg (l.length - (t + 1))
        case measure => have := Hq.out; omega
        case rel =>
          refine ⟨t + 1, p, O ++ [Va.zero], ay, cy, by omega, rfl, by go_num, Lib.hid ?_, Lib.hid ?_, hp, Lib.hid (fun v hv => ?_), by rw [List.length_append, HOl.out]; rfl, rfl, hsy, ?_, (hkr.transNo hkB).grown hg7 (fun i hi hlt2 => by have := (hown.lt i hi).1; exact absurd hlt2 (by omega))⟩
          · rw [← HM.out, merge_true l _ hlt Hx.out.symm, List.append_assoc]; rfl
          · have := HC.out; rw [Hdr.out] at this; simpa using this
          · rcases List.mem_append.1 hv with h | h
            · exact HOw.out v h
            · simp at h; subst h; exact ⟨by decide, by decide, by decide⟩
          · rw [List.map_append, List.flatten_append]; exact hown7
      | false =>
        have hpX : p < X.length := by have := HC.out; rw [Hdr.out] at this; simp at this; omega
        have hsyr := hsy.kept hkr
        obtain ⟨y, hy⟩ : ∃ y, y = X.getD p Va.zero := ⟨_, rfl⟩
        have hixy := hsyr.ixz (P := Tryz.prog) Tryz.underlying25 val_size 0 (i := 0) rfl (by omega) .i64
        have hldy := fun wx (hx : Keeps No wr wx) => ((hsyr.kept hx).load (P := Tryz.prog) (ty := 32) Tryz.underlying32 rfl val_size (i := 0) (by omega)).1
        have hgy : ((X.drop p).map Va.cells).getD 0 [] = y.cells := by rw [hy]; simp [hpX]
        rw [hgy] at hldy
        obtain ⟨ay2, htl1, htl2, hsy2⟩ := hsy.tail (P := Tryz.prog) Tryz.underlying25 val_size (by omega) .i64
        have Hy := Lib.hid hy
        clear hgy hy
        obtain ⟨yk, yn, ys, yf⟩ := y
        unfold Va.cells at hldy
        simp only at hldy
        have hkB : Keeps No wr (wr.drew.alloc (.cells #[.int .i64 yk, .int .i64 yn, .string ys, .int .u64 (yf : Int)] 32)) := ((Keeps.refl No wr).drew).alloc _
        have hownB := hkB.own hown (fun _ _ => not_No _)
        have hone : SlK (wr.drew.alloc (.cells #[.int .i64 yk, .int .i64 yn, .string ys, .int .u64 (yf : Int)] 32)) 4 (some ⟨wr.heap.size, 0, none⟩) 1 1 [Va.cells ⟨yk, yn, ys, yf⟩] := SlK.one wr.drew (Va.cells ⟨yk, yn, ys, yf⟩) 32 rfl
        go_wp2_with fail
        refine wp_region_held_drew (S := fun wx => Keeps No w8 wx) (by kernel_rfl) (hkr.drew) (fun hS => ?_)
        refine tk (i := 0) (oi := ⟨some 110, _, _, _, _, _⟩) (v := ?_) rfl (by kernel_rfl) (fun _ _ _ h => h) (by assumption) (by rfl) (fun w hSw => ?_) ?_; rotate_left; (focus (first | (go_simp; done) | (go_simp; with_reducible rfl))); simp only [Act.put, List.setIfInBounds_toArray, List.set_cons_zero, List.set_cons_succ]
        refine tk (i := 1) (oi := ⟨some 111, _, _, _, _, _⟩) (v := ?_) rfl (by kernel_rfl) (fun _ _ _ h => h) (by assumption) (by rfl) (fun w hSw => ?_) ?_; rotate_left; (focus (first | (go_simp; done) | (go_simp; with_reducible rfl))); simp only [Act.put, List.setIfInBounds_toArray, List.set_cons_zero, List.set_cons_succ]
        refine tk (i := 2) (oi := ⟨some 112, _, _, _, _, _⟩) (v := ?_) rfl (by kernel_rfl) (fun _ _ _ h => h) (by assumption) (by rfl) (fun w hSw => ?_) ?_; rotate_left; (focus (first | (go_simp; done) | (go_simp; with_reducible rfl))); simp only [Act.put, List.setIfInBounds_toArray, List.set_cons_zero, List.set_cons_succ]
        refine tk (i := 6) (oi := ⟨some 116, _, _, _, _, _⟩) (v := ?_) rfl (by kernel_rfl) (fun _ _ _ h => h) (by assumption) (by rfl) (fun w hSw => ?_) ?_; rotate_left; (focus (first | (go_simp; done) | (go_simp; with_reducible rfl))); simp only [Act.put, List.setIfInBounds_toArray, List.set_cons_zero, List.set_cons_succ]
        refine tk (i := 7) (oi := ⟨some 117, _, _, _, _, _⟩) (v := ?_) rfl (by kernel_rfl) (fun _ _ _ h => h) (by assumption) (by rfl) (fun w hSw => ?_) ?_; rotate_left; (focus (first | (go_simp; done) | (go_simp; with_reducible rfl))); simp only [Act.put, List.setIfInBounds_toArray, List.set_cons_zero, List.set_cons_succ]
        refine alone (i := 3) (oi := ⟨some 113, _, _, _, _, _⟩) rfl (by kernel_rfl) (by rfl) (fun K hK => ?_)
        refine wp_loadV 32 (.tmp 112) rfl _ rfl _ (hldy _ (Keeps.refl No wr).drew) ?_
        refine hK.out (fun wx => Keeps No w8 wx) _ _ (fun _ h => h) (hS) ?_
        clear hK K hS
        intro hS
        refine alone (i := 4) (oi := ⟨some 114, _, _, _, _, _⟩) rfl (by kernel_rfl) (by rfl) (fun K hK => ?_); go_simp
        refine hK.out (fun wx => Keeps No w8 wx) _ _ (fun _ h => h) (hS.alloc _) ?_
        clear hK K hS
        intro hS
        refine alone (i := 5) (oi := ⟨some 115, _, _, _, _, _⟩) rfl (by kernel_rfl) (by rfl) (fun K hK => ?_)
        refine wp_app_ownK _ _ 25 rfl w8.heap.size 32 _ 4 40 Tryz.underlying25 val_info rfl (by decide) (by decide) _ t (O.map Va.cells).flatten rfl hownB _ 1 1 [Va.cells ⟨yk, yn, ys, yf⟩] rfl hone ?h1 ?hb ?hB ?_
        case h1 => exact vals_one [⟨yk, yn, ys, yf⟩]
        case hb => omega
        case hB => have := hS.size; omega
        intro v7 w7 hown7 hg7 _
        have hk87 : Keeps No w8 w7 := hS.grown hg7 (fun i hi hlt2 => by have := (hown.lt i hi).1; exact absurd hlt2 (by omega))
        refine hK.out (fun wx => Keeps No w8 wx) _ _ (fun _ h => h) (hk87) ?_
        clear hK K hS
        intro hS
        refine tk (i := 8) (oi := ⟨some 17, _, _, _, _, _⟩) (v := ?_) rfl (by kernel_rfl) (fun _ _ _ h => h) (by assumption) (by rfl) (fun w hSw => ?_) ?_; rotate_left; (focus (first | (go_simp; done) | (go_simp; with_reducible rfl))); simp only [Act.put, List.setIfInBounds_toArray, List.set_cons_zero, List.set_cons_succ]
        refine tk (i := 9) (oi := ⟨some 15, _, _, _, _, _⟩) (v := ?_) rfl (by kernel_rfl) (fun _ _ _ h => h) (by assumption) (by rfl) (fun w hSw => ?_) ?_; rotate_left; (focus (first | (go_simp; done) | (go_simp; with_reducible rfl))); simp only [Act.put, List.setIfInBounds_toArray, List.set_cons_zero, List.set_cons_succ]
        refine wpAnyH_done (by kernel_rfl) ?_ _
        go_wp2_with fail
        go_roundg (l.length - (t + 1))
        case measure => have := Hq.out; omega
        case rel =>
          refine ⟨t + 1, p + 1, O ++ [⟨yk, yn, ys, yf⟩], ay2, cy - 1, by omega, rfl, by go_num, Lib.hid ?_, Lib.hid ?_, by omega, Lib.hid (fun v hv => ?_), by rw [List.length_append, HOl.out]; rfl, by rw [Nat.sub_sub], by rw [Nat.sub_sub] at hsy2; rw [← List.map_drop, List.drop_drop] at hsy2; exact hsy2, ?_, hk87⟩
          · rw [← HM.out, merge_false l _ hlt Hx.out.symm hpX, ← Hy.out, List.append_assoc]; rfl
          · have := HC.out; rw [Hdr.out] at this; simp at this; omega
          · rcases List.mem_append.1 hv with h | h
            · exact HOw.out v h
            · simp at h; subst h; rw [Hy.out]; refine HXw.out _ ?_; simp [hpX]
          · rw [List.map_append, List.flatten_append]; exact hown7
    · obtain rfl : t = l.length := by omega
      have hOX : O = merge l X := by have := HM.out; rw [List.drop_length] at this; simpa [merge] using this
      have HOX := Lib.hid hOX
      obtain ⟨aO, cO, rfl, hsO, _⟩ := SlK.ofOwn (k := 4) (by decide) (vals_wide O) hown
      clear hOX HM HC
      go_wp2_with fail
      refine (colput_any (Kb.toNat : Int) aO _ cO O wr hsO HOw.out).mono ?_
      have hmg : ∀ k L, rightC k L = true → (∀ v ∈ L, v.wf) → colPut k L = b → O = L ∧ (Kb.toNat : Int) = k := by
        intro k L h1 h2 h3
        obtain ⟨_, q2, q3, q4⟩ := Hfin.out k L h1 h2 h3
        injection q3 with q3
        refine ⟨?_, q4⟩
        rw [HOX.out, q2, q3]
        exact merge_full L (fun v hv => ((rightC_iff.1 h1).2 v hv).1)
      have Hmg := Lib.hid hmg
      clear hmg
      rintro e w9 (⟨hr9, rfl, hk9⟩ | ⟨hr9, v9, rfl, hown9, hk9⟩)
      · have Hr9 := Lib.hid hr9
        clear hr9
        go_wp2_with fail
        go_ret3
        exact ColGetPost.no (fun k L h1 h2 h3 => by
          obtain ⟨q1, q2⟩ := Hmg.out k L h1 h2 h3
          have := Hr9.out
          rw [q1, q2, h1] at this
          cases this) ((hk08.transNo hkr).transNo hk9)
      · obtain ⟨a9, c9, rfl, hs9, _⟩ := Sl.ofOwn hown9
        have hk09 := (hk08.transNo hkr).transNo hk9
        have hs09 := hs.kept hk09
        have hl9 := colPut_len hr9 HOw.out
        have Hr9 := Lib.hid hr9
        have hO9 := hk9.own hown (fun _ _ => not_No _)
        clear hr9
        go_wp2_with fail
        refine (beq_any a9 _ c9 (colPut (Kb.toNat : Int) O) a m c b w9 hs9 hs09 (by omega) (by omega)).mono ?_
        rintro e w10 ⟨rfl, hk10⟩
        have hk010 := hk09.transNo hk10
        have hO10 := hk10.own hO9 (fun _ _ => not_No _)
        by_cases hEq : colPut (Kb.toNat : Int) O = b
        · have hd : decide (colPut (Kb.toNat : Int) O = b) = true := decide_eq_true hEq
          rw [hd]
          have HEq := Lib.hid hEq
          clear hd hEq
          go_wp2_with fail
          go_ret3
          refine ⟨some ((Kb.toNat : Int), O), ⟨fun k L e => ?_, fun k L h1 h2 h3 => ?_⟩, hk010, .inr ⟨_, _, _, rfl, rfl, ?_⟩⟩
          · injection e with e; injection e with e1 e2
            subst e1 e2
            exact ⟨Hr9.out, HOw.out, HEq.out⟩
          · obtain ⟨q1, q2⟩ := Hmg.out k L h1 h2 h3
            rw [q1, q2]
          · rw [HOl.out]
            exact own_le hO10 hk08.size
        · have hd : decide (colPut (Kb.toNat : Int) O = b) = false := decide_eq_false hEq
          rw [hd]
          have HEq := Lib.hid hEq
          clear hd hEq
          go_wp2_with fail
          go_ret3
          exact ColGetPost.no (fun k L h1 h2 h3 => by
            obtain ⟨q1, q2⟩ := Hmg.out k L h1 h2 h3
            refine HEq.out ?_
            rw [q1, q2]; exact h3) hk010
end Go.Proofs.YthbipcjgpocpaaaGreat
