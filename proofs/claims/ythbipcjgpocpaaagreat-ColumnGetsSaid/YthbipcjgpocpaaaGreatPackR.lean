/- The walks of package pack that read: Open, fail, Byte, Natural, Done, each once; what a reader is. -/
import Derived.Test.YthbipcjgpocpaaaGreatPackW
namespace Go.Proofs.YthbipcjgpocpaaaGreat
open Go.RowKit
set_option linter.unusedSimpArgs false
set_option linter.unusedVariables false

/-- The reader at block b, its bytes in block sb: xs is left; is it bad? -/
def Rd (w : World) (b sb : Nat) (xs : List UInt8) (bad : Bool) : Prop :=
  ∃ a n c, w.heap[b]? = some (.cells #[.slice a n c, .bool bad] 61 (0, 0)) ∧ Sl w a n c (xs.map byteV) ∧ (0 < n → (a.getD default).block = sb ∧ b ≠ sb) ∧ n ≤ 140737488355328
/-- The same, by its state: none: it is bad. -/
def Rds (w : World) (b sb : Nat) : Option (List UInt8) → Prop
  | some xs => Rd w b sb xs false
  | none => ∃ xs, Rd w b sb xs true

theorem Rd.keep {w w' : World} {b sb : Nat} {xs : List UInt8} {bad : Bool} {S : Nat → Prop} (h : Rd w b sb xs bad) (k : Keeps S w w') (hb : ¬ S b) (hsb : ¬ S sb) : Rd w' b sb xs bad := by
  obtain ⟨a, n, c, h1, h2, h3, h4⟩ := h
  exact ⟨a, n, c, k.blk h1 hb, h2.keep k (fun hn => by rw [(h3 hn).1]; exact hsb), h3, h4⟩
theorem Rds.keep {w w' : World} {b sb : Nat} {st : Option (List UInt8)} {S : Nat → Prop} (h : Rds w b sb st) (k : Keeps S w w') (hb : ¬ S b) (hsb : ¬ S sb) : Rds w' b sb st := by
  cases st with
  | none => obtain ⟨xs, hx⟩ := h; exact ⟨xs, hx.keep k hb hsb⟩
  | some xs => exact Rd.keep h k hb hsb
theorem Rd.rds {w : World} {b sb : Nat} {xs : List UInt8} {bad : Bool} (h : Rd w b sb xs bad) : Rds w b sb (if bad then none else some xs) := by
  cases bad
  · exact h
  · exact ⟨xs, h⟩

theorem open_any (a : Option Addr) (n c : Nat) (xs : List UInt8) (w : World) (hs : Sl w a n c (xs.map byteV)) (hn : n ≤ 140737488355328) :
    Calls Tryz.prog 9 #[.slice a n c] w fun e w' =>
      ∃ b sb, e = .returned (.pointer (some ⟨b, 0, none⟩)) ∧ Rd w' b sb xs false ∧ w.heap.size ≤ b ∧ w.heap.size ≤ sb ∧ b < w'.heap.size ∧ sb < w'.heap.size ∧ Keeps No w w' := by
  go_enter Tryz.func9, Tryz.ntmps9
  go_wp2_with fail
  refine (cloneB_any _ _ _ _ _ hs hn).mono ?_
  rintro e w1 ⟨v1, rfl, hown1, hk1⟩
  obtain ⟨a1, c1, rfl, hs1, hb1⟩ := Sl.ofOwn hown1
  clear hown1
  go_wp2_with fail
  go_ret
  have hnew : (w1.alloc (.cells #[.slice a1 n c1, .bool false] 61)).heap[w1.heap.size]? = some (.cells #[.slice a1 n c1, .bool false] 61 (0, 0)) := heap_alloc_new w1 _
  cases a1 with
  | none =>
    obtain ⟨rfl, rfl⟩ := hs1.nil rfl
    refine ⟨w1.heap.size, w1.heap.size, rfl, ⟨_, _, _, hnew, hs1.kept ((Keeps.refl _ _).alloc _), fun h => absurd h (by omega), by omega⟩, hk1.size, hk1.size, by simp, by simp, hk1.alloc _⟩
  | some x =>
    obtain ⟨g, rfl, hg1, hg2⟩ := hb1 x rfl
    refine ⟨w1.heap.size, g, rfl, ⟨_, _, _, hnew, hs1.kept ((Keeps.refl _ _).alloc _), fun _ => ⟨rfl, by omega⟩, hn⟩, hk1.size, hg1, by simp, by simp; omega, hk1.alloc _⟩

theorem Rd.store {w : World} {b sb n n' : Nat} {xs' : List UInt8} {bad bad' : Bool} {a a' : Option Addr} {c c' : Nat} (h1 : w.heap[b]? = some (.cells #[.slice a n c, .bool bad] 61 (0, 0)))
    (w' : World) (hw : w'.heap[b]? = some (.cells #[.slice a' n' c', .bool bad'] 61 (0, 0))) (hk : Keeps (· = b) w w') (hs : Sl w a' n' c' (xs'.map byteV)) (h3 : 0 < n' → (a'.getD default).block = sb ∧ b ≠ sb) (h4 : n' ≤ 140737488355328) : Rd w' b sb xs' bad' :=
  ⟨a', n', c', hw, hs.keep hk (fun hn => by rw [(h3 hn).1]; exact fun e => (h3 hn).2 e.symm), h3, h4⟩

theorem fail_any (b sb : Nat) (xs : List UInt8) (bad : Bool) (w : World) (h : Rd w b sb xs bad) :
    Calls Tryz.prog 28 #[.pointer (some ⟨b, 0, none⟩)] w fun e w' => e = .returned (.bool false) ∧ Rd w' b sb xs true ∧ Keeps (· = b) w w' := by
  obtain ⟨a, n, c, h1, h2, h3, h4⟩ := h
  have hc := cell_of_row w b 1 _ _ (0, 0) h1
  have hf := frozen_of_row w b 1 _ _ h1
  go_enter Tryz.func28, Tryz.ntmps28
  go_wp2_with fail
  go_ret
  have hk : Keeps (· = b) w (w.setCell ⟨b, 1, none⟩ (.bool true)) := Keeps.set w b 1 _
  exact ⟨rfl, Rd.store h1 _ (heap_setCell_same w b 1 _ _ _ h1) hk h2 h3 h4, hk⟩

theorem fail_nil (w : World) :
    Calls Tryz.prog 28 #[.pointer none] w fun e w' => e = .returned (.bool false) ∧ w = w' := by
  go_enter Tryz.func28, Tryz.ntmps28
  go_wp2_with fail
  go_ret
  exact ⟨rfl, rfl⟩

theorem byte_nil (w : World) :
    Calls Tryz.prog 11 #[.pointer none] w fun e w' => e = .returned (.tuple #[.int .u8 0, .bool false]) ∧ w = w' := by
  go_enter Tryz.func11, Tryz.ntmps11
  go_wp2_with fail
  refine (fail_nil w).mono ?_
  rintro e w1 ⟨rfl, rfl⟩
  go_wp2_with fail
  go_ret2
  exact ⟨rfl, rfl⟩

theorem byte_some (b sb : Nat) (x : UInt8) (xs : List UInt8) (w : World) (h : Rd w b sb (x :: xs) false) :
    Calls Tryz.prog 11 #[.pointer (some ⟨b, 0, none⟩)] w fun e w' => e = .returned (.tuple #[.int .u8 (x.toNat : Int), .bool true]) ∧ Rd w' b sb xs false ∧ Keeps (· = b) w w' := by
  obtain ⟨a, n, c, h1, h2, h3, h4⟩ := h
  have hlen : xs.length + 1 = n := by simpa using h2.len
  have hc0 := cell_of_row w b 0 _ _ (0, 0) h1
  have hc1 := cell_of_row w b 1 _ _ (0, 0) h1
  have hf := frozen_of_row w b 0 _ _ h1
  have hix := h2.ixz (P := Tryz.prog) Tryz.underlying22 (by kernel_rfl) 0 (i := 0) rfl (by omega) .i64
  have hcx := h2.at_ (i := 0) (by omega)
  rw [Addr.add_zero'] at hix hcx
  have e : ((x :: xs).map byteV).getD 0 undef = .int .u8 (x.toNat : Int) := rfl
  rw [e] at hcx
  have hle := h2.le
  have hd := h2.dropv (k := 1) (by omega)
  have hn0 : 0 < n := by omega
  have hn1 : ((n : Int) == 0) = false := by rw [beq_eq_false_iff_ne]; omega
  have Hlen := Lib.hid hlen
  clear hlen
  by_cases hc : c = 1
  · subst hc
    obtain rfl : n = 1 := by omega
    rw [if_pos rfl] at hd
    go_enter Tryz.func11, Tryz.ntmps11
    go_wp2_with fail
    go_ret2
    exact ⟨rfl, Rd.store h1 _ (heap_setCell_same w b 0 _ _ _ h1) (Keeps.set w b 0 _) hd (fun h => absurd h (by omega)) (by omega), Keeps.set w b 0 _⟩
  · rw [if_neg hc] at hd
    go_enter Tryz.func11, Tryz.ntmps11
    go_wp2_with fail
    go_ret2
    refine ⟨rfl, Rd.store h1 _ (heap_setCell_same w b 0 _ _ _ h1) (Keeps.set w b 0 _) hd (fun h => ?_) (by omega), Keeps.set w b 0 _⟩
    refine ⟨?_, (h3 hn0).2⟩
    rw [h2.isSome hn0]
    exact (Sl.block_add _ 1).trans (h3 hn0).1

theorem byte_none (b sb : Nat) (xs : List UInt8) (bad : Bool) (w : World) (h : Rd w b sb xs bad) (hb : bad = true ∨ xs = []) :
    Calls Tryz.prog 11 #[.pointer (some ⟨b, 0, none⟩)] w fun e w' => e = .returned (.tuple #[.int .u8 0, .bool false]) ∧ Rd w' b sb xs true ∧ Keeps (· = b) w w' := by
  have hR := h
  obtain ⟨a, n, c, h1, h2, h3, h4⟩ := h
  have hlen : xs.length = n := by simpa using h2.len
  have hc0 := cell_of_row w b 0 _ _ (0, 0) h1
  have hc1 := cell_of_row w b 1 _ _ (0, 0) h1
  cases bad with
  | true =>
    go_enter Tryz.func11, Tryz.ntmps11
    go_wp2_with fail
    refine (fail_any b sb xs true w hR).mono ?_
    rintro e w1 ⟨rfl, hr1, hk1⟩
    go_wp2_with fail
    go_ret2
    exact ⟨rfl, hr1, hk1⟩
  | false =>
    obtain rfl : n = 0 := by rcases hb with h | h; exact absurd h (by decide); subst h; simpa using hlen.symm
    go_enter Tryz.func11, Tryz.ntmps11
    go_wp2_with fail
    refine (fail_any b sb xs false w hR).mono ?_
    rintro e w1 ⟨rfl, hr1, hk1⟩
    go_wp2_with fail
    go_ret2
    exact ⟨rfl, hr1, hk1⟩

theorem done_nil (w : World) :
    Calls Tryz.prog 59 #[.pointer none] w fun e w' => e = .returned (.bool false) ∧ w = w' := by
  go_enter Tryz.func59, Tryz.ntmps59
  go_wp2_with fail
  go_ret
  exact ⟨rfl, rfl⟩

theorem done_any (b sb : Nat) (st : Option (List UInt8)) (w : World) (h : Rds w b sb st) :
    Calls Tryz.prog 59 #[.pointer (some ⟨b, 0, none⟩)] w fun e w' => e = .returned (.bool (decide (st = some []))) ∧ w = w' := by
  cases st with
  | none =>
    obtain ⟨xs, a, n, c, h1, h2, h3, h4⟩ := h
    have hc0 := cell_of_row w b 0 _ _ (0, 0) h1
    have hc1 := cell_of_row w b 1 _ _ (0, 0) h1
    go_enter Tryz.func59, Tryz.ntmps59
    go_wp2_with fail
    go_ret
    exact ⟨ret_bool (by simp), rfl⟩
  | some xs =>
    obtain ⟨a, n, c, h1, h2, h3, h4⟩ := h
    have hlen : xs.length = n := by simpa using h2.len
    have hc0 := cell_of_row w b 0 _ _ (0, 0) h1
    have hc1 := cell_of_row w b 1 _ _ (0, 0) h1
    have Hlen := Lib.hid hlen
    clear hlen
    go_enter Tryz.func59, Tryz.ntmps59
    go_wp2_with fail
    go_ret
    refine ⟨ret_bool ?_, rfl⟩
    have := Hlen.out
    cases xs with
    | nil => simp at this; subst this; simp
    | cons x xs => simp at this; simp; omega

/-- The natural number that stands next: j: how many bytes it has so far; m: what they say. -/
def natGo (j m : Nat) : List UInt8 → Option (Nat × List UInt8)
  | [] => none
  | c :: t =>
    if (j = 9 ∧ 1 < c.toNat) ∨ (0 < j ∧ c.toNat = 0) then none
    else if c.toNat < 128 then some (m + c.toNat % 128 * 2 ^ (7 * j), t)
    else natGo (j + 1) (m + c.toNat % 128 * 2 ^ (7 * j)) t
def rdNat (st : Option (List UInt8)) : Option (Nat × List UInt8) := st.bind (natGo 0 0)

theorem natStep_lt (m c j : Nat) (hm : m < 2 ^ (7 * j)) : m + c % 128 * 2 ^ (7 * j) < 2 ^ (7 * (j + 1)) := by
  rw [show 7 * (j + 1) = 7 * j + 7 from by omega, Nat.pow_add]
  have : c % 128 * 2 ^ (7 * j) ≤ 127 * 2 ^ (7 * j) := Nat.mul_le_mul_right _ (by omega)
  omega

theorem natGo_lt (xs : List UInt8) : ∀ j m, j ≤ 9 → m < 2 ^ (7 * j) → ∀ v r, natGo j m xs = some (v, r) → v < 2 ^ 64 ∧ r.length < xs.length := by
  induction xs with
  | nil => intro j m _ _ v r h; simp [natGo] at h
  | cons c t ih =>
    intro j m hj hm v r h
    unfold natGo at h
    split at h
    · cases h
    rename_i hc
    have hstep : m + c.toNat % 128 * 2 ^ (7 * j) < 2 ^ (7 * (j + 1)) := by
      rw [show 7 * (j + 1) = 7 * j + 7 from by omega, Nat.pow_add]
      have : c.toNat % 128 * 2 ^ (7 * j) ≤ 127 * 2 ^ (7 * j) := Nat.mul_le_mul_right _ (by omega)
      omega
    split at h
    · rename_i hc2
      injection h with h; injection h with h1 h2
      subst h1 h2
      refine ⟨?_, by simp⟩
      by_cases h9 : j = 9
      · subst h9
        have : c.toNat ≤ 1 := by omega
        have : c.toNat % 128 * 2 ^ (7 * 9) ≤ 1 * 2 ^ (7 * 9) := Nat.mul_le_mul_right _ (by omega)
        have e : (2 : Nat) ^ 64 = 2 ^ (7 * 9) + 2 ^ (7 * 9) := by decide
        omega
      · exact Nat.lt_of_lt_of_le hstep (Nat.pow_le_pow_right (by decide) (by omega))
    · rename_i hc2
      have h9 : j ≠ 9 := by omega
      obtain ⟨h1, h2⟩ := ih (j + 1) _ (by omega) hstep v r h
      exact ⟨h1, by simp; omega⟩

def NatPost (r : Option (Nat × List UInt8)) (b sb : Nat) (w : World) (e : Ending) (w' : World) : Prop :=
  match r with
  | some (v, rest) => e = .returned (.tuple #[.int .u64 (v : Int), .bool true]) ∧ Rd w' b sb rest false ∧ Keeps (· = b) w w'
  | none => e = .returned (.tuple #[.int .u64 0, .bool false]) ∧ (∃ xs, Rd w' b sb xs true) ∧ Keeps (· = b) w w'

theorem Keeps.same {b : Nat} {w w1 w2 : World} (h : Keeps (fun k => k = b) w w1) (k : Keeps (fun k => k = b) w1 w2) : Keeps (fun k => k = b) w w2 := h.trans k fun _ _ h => h

theorem nat_bits (m c j : Nat) (hj : j ≤ 9) (hm : m < 2 ^ (7 * j)) (hc : c < 256) (h9 : j = 9 → c ≤ 1) :
    bits BinOp.or IntKind.u64 (m : Int) (IntKind.u64.wrap (IntKind.u64.wrap (bits BinOp.and IntKind.u8 (c : Int) 127) * 2 ^ (7 * j))) = ((m + c % 128 * 2 ^ (7 * j) : Nat) : Int) := by
  have h127 : bits BinOp.and IntKind.u8 (c : Int) 127 = ((c % 128 : Nat) : Int) := by
    have := bits_and_u8 c 127 hc (by decide)
    rw [show ((127 : Nat) : Int) = 127 from rfl] at this
    rw [this]
    congr 1
    exact Nat.and_two_pow_sub_one_eq_mod c 7
  have hle : c % 128 * 2 ^ (7 * j) < 2 ^ 64 := by
    by_cases h : j = 9
    · subst h
      have := h9 rfl
      have : c % 128 * 2 ^ (7 * 9) ≤ 1 * 2 ^ (7 * 9) := Nat.mul_le_mul_right _ (by omega)
      have e : (2 : Nat) ^ 64 = 2 ^ (7 * 9) + 2 ^ (7 * 9) := by decide
      omega
    · have h1 : c % 128 * 2 ^ (7 * j) ≤ 127 * 2 ^ 56 := Nat.mul_le_mul (by omega) (Nat.pow_le_pow_right (by decide) (by omega))
      have e : (127 : Nat) * 2 ^ 56 < 2 ^ 64 := by decide
      omega
  have hm64 : m < 2 ^ 64 := Nat.lt_of_lt_of_le hm (Nat.pow_le_pow_right (by decide) (by omega))
  have e64 : (2 : Nat) ^ 64 = 18446744073709551616 := by decide
  rw [h127]
  simp only [IntKind.wrap_u64]
  have e1 : ((c % 128 : Nat) : Int) % 18446744073709551616 = ((c % 128 : Nat) : Int) := by omega
  have e2 : (((c % 128 : Nat) : Int) * 2 ^ (7 * j)) = ((c % 128 * 2 ^ (7 * j) : Nat) : Int) := by push_cast; rfl
  rw [e1, e2, show ((c % 128 * 2 ^ (7 * j) : Nat) : Int) % 18446744073709551616 = ((c % 128 * 2 ^ (7 * j) : Nat) : Int) from by omega,
    bits_or_u64_nat _ _ (by omega) (by omega)]
  congr 1
  rw [Nat.mul_comm, Nat.or_comm, ← Nat.two_pow_add_eq_or_of_lt hm]
  omega

set_option maxRecDepth 100000 in
set_option maxHeartbeats 4000000 in
theorem rnatural_any (b sb : Nat) (st : Option (List UInt8)) (w : World) (h : Rds w b sb st) :
    Calls Tryz.prog 10 #[.pointer (some ⟨b, 0, none⟩)] w (NatPost (rdNat st) b sb w) := by
  obtain ⟨r, hr⟩ : ∃ r, r = rdNat st := ⟨_, rfl⟩
  rw [← hr]
  have Hr := Lib.hid hr
  clear hr
  cases st with
  | none =>
    obtain ⟨xs, hx⟩ := h
    go_enter Tryz.func10, Tryz.ntmps10
    go_wp2_with fail
    refine wp_loop_rounds 1 ?_
    rw [rounds_succ]
    go_wp2_with fail
    refine (byte_none b sb xs true _ hx (.inl rfl)).mono ?_
    rintro e w1 ⟨rfl, hr1, hk1⟩
    go_wp2_with fail
    refine (fail_any b sb xs true _ hr1).mono ?_
    rintro e w2 ⟨rfl, hr2, hk2⟩
    go_wp2_with fail
    go_ret2
    rw [Hr.out]
    exact ⟨rfl, ⟨_, hr2⟩, hk1.same hk2⟩
  | some xs =>
    go_enter Tryz.func10, Tryz.ntmps10
    go_wp2_with fail
    go_loopw [4, 5] (fun n s wr => ∃ (j m : Nat) (ys : List UInt8), j ≤ 9 ∧ m < 2 ^ (7 * j) ∧ n = .int .u64 (m : Int) ∧ s = .int .i64 ((7 * j : Nat) : Int) ∧ Rd wr b sb ys false ∧ r = natGo j m ys ∧ Keeps (· = b) w wr)
      (fun _ s _ => 70 - (intOf s).toNat)
    case atStart => exact ⟨0, 0, xs, by omega, by simp, rfl, rfl, h, Hr.out, Keeps.refl _ _⟩
    case round =>
      obtain ⟨j, m, ys, hj, hm, rfl, rfl, hrd, hval, hkr⟩ := hrel
      have Hval := Lib.hid hval
      have Hm := Lib.hid hm
      clear hval hm
      cases ys with
      | nil =>
        go_wp2_with fail
        refine (byte_none b sb [] false _ hrd (.inr rfl)).mono ?_
        rintro e w1 ⟨rfl, hr1, hk1⟩
        go_wp2_with fail
        refine (fail_any b sb [] true _ hr1).mono ?_
        rintro e w2 ⟨rfl, hr2, hk2⟩
        go_wp2_with fail
        go_ret2
        rw [Hval.out]
        exact ⟨rfl, ⟨_, hr2⟩, (hkr.same hk1).same hk2⟩
      | cons c t =>
        have hc256 : (c.toNat : Int) < 256 := by have := c.toNat_lt; omega
        by_cases hbad : (j = 9 ∧ 1 < c.toNat) ∨ (0 < j ∧ c.toNat = 0)
        · have hval : r = none := by rw [Hval.out, natGo, if_pos hbad]
          have Hval2 := Lib.hid hval
          clear hval
          rcases (show (j = 9 ∧ 1 < c.toNat) ∨ (j = 9 ∧ c.toNat = 0) ∨ (0 < j ∧ j < 9 ∧ c.toNat = 0) from by omega) with ⟨rfl, hc⟩ | ⟨rfl, hc⟩ | ⟨h0, h9, hc⟩
          · go_wp2_with fail
            refine (byte_some b sb c t _ hrd).mono ?_
            rintro e w1 ⟨rfl, hr1, hk1⟩
            go_wp2_with fail
            refine (fail_any b sb t false _ hr1).mono ?_
            rintro e w2 ⟨rfl, hr2, hk2⟩
            go_wp2_with fail
            go_ret2
            rw [Hval2.out]
            exact ⟨rfl, ⟨_, hr2⟩, (hkr.same hk1).same hk2⟩
          · have e0 : ((c.toNat : Int) == 0) = true := by rw [beq_iff_eq]; omega
            have e1 : ¬ (1 : Int) < (c.toNat : Int) := by omega
            clear hc
            go_wp2_with fail
            refine (byte_some b sb c t _ hrd).mono ?_
            rintro e w1 ⟨rfl, hr1, hk1⟩
            go_wp2_with fail
            refine (fail_any b sb t false _ hr1).mono ?_
            rintro e w2 ⟨rfl, hr2, hk2⟩
            go_wp2_with fail
            go_ret2
            rw [Hval2.out]
            exact ⟨rfl, ⟨_, hr2⟩, (hkr.same hk1).same hk2⟩
          · have e0 : ((c.toNat : Int) == 0) = true := by rw [beq_iff_eq]; omega
            have e1 : (7 * (j : Int) == 63) = false := by rw [beq_eq_false_iff_ne]; omega
            clear hc
            go_wp2_with fail
            refine (byte_some b sb c t _ hrd).mono ?_
            rintro e w1 ⟨rfl, hr1, hk1⟩
            go_wp2_with fail
            refine (fail_any b sb t false _ hr1).mono ?_
            rintro e w2 ⟨rfl, hr2, hk2⟩
            go_wp2_with fail
            go_ret2
            rw [Hval2.out]
            exact ⟨rfl, ⟨_, hr2⟩, (hkr.same hk1).same hk2⟩
        · have hval := Hval.out
          rw [natGo, if_neg hbad] at hval
          have hnb := nat_bits m c.toNat j hj Hm.out (by omega) (by omega)
          have Hnb := Lib.hid hnb
          have Hval2 := Lib.hid hval
          clear hval hnb Hval
          rcases (show (j = 9 ∧ c.toNat = 1) ∨ (j = 0 ∧ c.toNat < 128) ∨ (0 < j ∧ j < 9 ∧ 0 < c.toNat ∧ c.toNat < 128) ∨ (j = 0 ∧ 128 ≤ c.toNat) ∨ (0 < j ∧ j < 9 ∧ 128 ≤ c.toNat) from by omega) with ⟨rfl, hc⟩ | ⟨rfl, hc⟩ | ⟨h0, h9, hc, hc2⟩ | ⟨rfl, hc⟩ | ⟨h0, h9, hc⟩
          · have e0 : ((c.toNat : Int) == 0) = false := by rw [beq_eq_false_iff_ne]; omega
            have e1 : ¬ (1 : Int) < (c.toNat : Int) := by omega
            have e2 : (c.toNat : Int) < 128 := by omega
            have Hc := Lib.hid hc
            clear hc
            go_wp2_with fail
            refine (byte_some b sb c t _ hrd).mono ?_
            rintro e w1 ⟨rfl, hr1, hk1⟩
            go_wp2_with fail
            go_ret2
            rw [Hval2.out, if_pos (by have := Hc.out; omega)]
            exact ⟨congrArg (fun z => Ending.returned (.tuple #[.int .u64 z, .bool true])) Hnb.out, hr1, hkr.same hk1⟩
          · have e2 : (c.toNat : Int) < 128 := by omega
            have Hc := Lib.hid hc
            clear hc
            go_wp2_with fail
            refine (byte_some b sb c t _ hrd).mono ?_
            rintro e w1 ⟨rfl, hr1, hk1⟩
            go_wp2_with fail
            go_ret2
            rw [Hval2.out, if_pos Hc.out]
            exact ⟨congrArg (fun z => Ending.returned (.tuple #[.int .u64 z, .bool true])) (by have := Hnb.out; simpa using this), hr1, hkr.same hk1⟩
          · have e0 : ((c.toNat : Int) == 0) = false := by rw [beq_eq_false_iff_ne]; omega
            have e1 : (7 * (j : Int) == 63) = false := by rw [beq_eq_false_iff_ne]; omega
            have e2 : (c.toNat : Int) < 128 := by omega
            have Hc := Lib.hid hc2
            clear hc hc2
            go_wp2_with fail
            refine (byte_some b sb c t _ hrd).mono ?_
            rintro e w1 ⟨rfl, hr1, hk1⟩
            go_wp2_with fail
            go_ret2
            rw [Hval2.out, if_pos Hc.out]
            exact ⟨congrArg (fun z => Ending.returned (.tuple #[.int .u64 z, .bool true])) Hnb.out, hr1, hkr.same hk1⟩
          · have e2 : ¬ (c.toNat : Int) < 128 := by omega
            have Hc := Lib.hid hc
            clear hc
            go_wp2_with fail
            refine (byte_some b sb c t _ hrd).mono ?_
            rintro e w1 ⟨rfl, hr1, hk1⟩
            go_wp2_with fail
            go_roundw
            case rel =>
              refine ⟨1, _, t, by omega, natStep_lt m c.toNat 0 Hm.out, congrArg (Value.int .u64) (by have := Hnb.out; simpa using this), rfl, hr1, ?_, hkr.same hk1⟩
              rw [Hval2.out, if_neg (by have := Hc.out; omega)]
            case measure => simp [intOf]
          · have e0 : ((c.toNat : Int) == 0) = false := by rw [beq_eq_false_iff_ne]; omega
            have e1 : (7 * (j : Int) == 63) = false := by rw [beq_eq_false_iff_ne]; omega
            have e2 : ¬ (c.toNat : Int) < 128 := by omega
            have Hc := Lib.hid hc
            clear hc
            go_wp2_with fail
            refine (byte_some b sb c t _ hrd).mono ?_
            rintro e w1 ⟨rfl, hr1, hk1⟩
            go_wp2_with fail
            go_roundw
            case rel =>
              refine ⟨j + 1, _, t, by omega, natStep_lt m c.toNat j Hm.out, congrArg (Value.int .u64) Hnb.out, by go_num, hr1, ?_, hkr.same hk1⟩
              rw [Hval2.out, if_neg (by have := Hc.out; omega)]
            case measure => simp [intOf]; omega
end Go.Proofs.YthbipcjgpocpaaaGreat
