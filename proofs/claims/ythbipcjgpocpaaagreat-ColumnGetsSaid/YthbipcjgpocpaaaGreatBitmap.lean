/- The walks of package bitmap: Put, Get, Count, each once. -/
import Derived.Test.YthbipcjgpocpaaaGreatNum
import Derived.Lib.BitFns
namespace Go.Proofs.YthbipcjgpocpaaaGreat
set_option linter.unusedSimpArgs false
set_option linter.unusedVariables false
open Go.RowKit

theorem ones_info : (Tryz.prog.info? 5).map (fun i => (i.zero, i.size, i.bytes)) = some (some (.int .u8 0), 1, 1) := by kernel_rfl
theorem bool_info : (Tryz.prog.info? 4).map (fun i => (i.zero, i.size, i.bytes)) = some (some (.bool false), 1, 1) := by kernel_rfl

/-- One step of Put: bit i of the bytes. -/
def putStep (l : List Bool) (out : List UInt8) (i : Nat) : List UInt8 :=
  if l.getD i false then out.set (i / 8) (out.getD (i / 8) 0 ||| (1 <<< (UInt8.ofNat (i % 8)))) else out
def putTo (l : List Bool) : Nat → List UInt8
  | 0 => List.replicate ((l.length + 7) / 8) 0
  | k + 1 => putStep l (putTo l k) k
theorem putTo_length (l : List Bool) (k : Nat) : (putTo l k).length = (l.length + 7) / 8 := by
  induction k with
  | zero => simp [putTo]
  | succ k ih => unfold putTo putStep; split <;> simp [ih]

set_option maxRecDepth 100000 in
set_option maxHeartbeats 1000000 in
theorem put_any (a : Option Addr) (n c : Nat) (l : List Bool) (w : World) (hs : Sl w a n c (l.map Value.bool)) (hn : n ≤ 140737488351232) :
    Calls Tryz.prog 26 #[.slice a n c] w fun e w' =>
      ∃ v, e = .returned v ∧ w'.ownsRow w.heap.size 5 1 v (putTo l n).length ((putTo l n).map byteV) ∧ Keeps No w w' := by
  obtain ⟨i0, hi, hz0, hz1, hz2⟩ := info_parts ones_info
  have hlen : l.length = n := by simpa using hs.len
  go_enter Tryz.func26, Tryz.ntmps26
  go_wp2_with (at_make; refine wpList_make_full _ rfl _ _ 22 rfl w.heap.size 5 i0 (.int .u8 0) 1 Tryz.underlying22 hi hz0 hz1 _ _ _ _ ((n + 7) / 8) rfl rfl ?hL ?hC ?b2 ?b3 ?b4 ?_)
  case hL => omega
  case hC => omega
  case b2 => first | omega | (rw [hz2]; omega)
  case b3 => unfold maxLen; omega
  case b4 => exact Nat.le_refl _
  intro w1 hown hg
  go_wp2_with fail
  go_loopw [13] (fun i wr => ∃ k : Nat, k ≤ n ∧ i = .int .i64 k ∧ wr.ownsRow w.heap.size 5 1 (.slice (some ⟨w.heap.size, 0, none⟩) ((n + 7) / 8) ((n + 7) / 8)) ((n + 7) / 8) ((putTo l k).map byteV) ∧ Keeps No w wr)
    (fun i _ => n - (intOf i).toNat)
  case atStart =>
    refine ⟨0, Nat.zero_le _, rfl, ?_, (Keeps.refl No w).grown hg (fun _ h => by cases h)⟩
    rw [toList_madeCells_one] at hown
    simpa [putTo, hlen, byteV] using hown
  case round =>
    obtain ⟨k, hk, rfl, hownr, hkr⟩ := hrel
    by_cases hlt : k < n
    · have hix := hs.ix (P := Tryz.prog) Tryz.underlying43 (by kernel_rfl) hlt .i64
      have hc := (hs.kept hkr).at_ hlt
      have hb : (l.map Value.bool).getD k undef = .bool (l.getD k false) := by simp [hlen, hlt]
      rw [hb] at hc
      cases hl : l.getD k false
      all_goals rw [hl] at hc
      · go_wp2_with fail
        go_roundw
        case rel => exact ⟨k + 1, by omega, by go_num, by rw [show putTo l (k + 1) = putTo l k from by rw [putTo, putStep, hl]; rfl]; exact hownr, hkr⟩
        case measure => simp [intOf]; omega
      · have hm : k / 8 < (putTo l k).length := by rw [putTo_length, hlen]; omega
        have hcell := hownr.cellAt (k / 8) (by omega)
        have hfr := hownr.frozenAt (k / 8)
        rw [List.getElem?_map, List.getElem?_eq_getElem hm] at hcell
        obtain ⟨x, hx⟩ : ∃ x, x = (putTo l k)[k / 8] := ⟨_, rfl⟩
        simp only [Option.map_some, ← hx, byteV] at hcell
        have hx0 : (0 : Int) ≤ (x.toNat : Int) := by omega
        have hx1 : (x.toNat : Int) < 256 := by have := x.toNat_lt; omega
        have Hx := Lib.hid hx
        clear hx
        go_wp2_with fail
        go_region
        go_wp2_with fail
        go_roundw
        case rel =>
          refine ⟨k + 1, by omega, by go_num, ?_, (hkr.setCell (fun h => absurd h (by simp)) _).drew⟩
          rw [pow_u8 _ (by omega), or_u8, putTo, putStep, hl, if_pos rfl, List.map_set]
          have e : x = (putTo l k).getD (k / 8) 0 := by rw [Hx.out]; simp [hm]
          rw [← e]
          exact (hownr.stored (k / 8) _).1
        case measure => simp [intOf]; omega
    · obtain rfl : k = n := by omega
      go_wp2_with fail
      go_ret
      exact ⟨_, rfl, by rw [putTo_length, hlen]; exact hownr, hkr⟩

def getTo (b : List UInt8) (k : Nat) : List Bool := (List.range k).map fun i => (b.getD (i / 8) 0).toNat.testBit (i % 8)
def getBits (b : List UInt8) (n : Int) : Option (List Bool) :=
  if n < 0 ∨ (b.length : Int) ≠ n / 8 + (n % 8 + 7) / 8 then none
  else if 0 < n % 8 ∧ 0 < (b.getD (n / 8).toNat 0).toNat / 2 ^ (n % 8).toNat then none
  else some (getTo b n.toNat)

def GetPost (r : Option (List Bool)) (w : World) (e : Ending) (w' : World) : Prop :=
  match r with
  | none => e = .returned (.tuple #[.slice none 0 0, .bool false]) ∧ Keeps No w w'
  | some l => ∃ v, e = .returned (.tuple #[v, .bool true]) ∧ w'.ownsRow w.heap.size 4 1 v l.length (l.map Value.bool) ∧ Keeps No w w'

theorem getTo_set (b : List UInt8) (k n : Nat) (h : k < n) : (getTo b k ++ List.replicate (n - k) false).set k ((b.getD (k / 8) 0).toNat.testBit (k % 8)) = getTo b (k + 1) ++ List.replicate (n - (k + 1)) false := by
  have hl : (getTo b k).length = k := by simp [getTo]
  rw [List.set_append_right _ _ (by omega), hl, Nat.sub_self, show n - k = (n - (k + 1)) + 1 from by omega, List.replicate_succ, List.set_cons_zero]
  simp [getTo, List.range_succ]

set_option maxRecDepth 100000 in
set_option maxHeartbeats 1000000 in
theorem get_any (a : Option Addr) (m c : Nat) (b : List UInt8) (n : Int) (w : World) (hs : Sl w a m c (b.map byteV)) (hm : m ≤ 17592186044416) (hn : (Lit.int .i64 n).wf = true) :
    Calls Tryz.prog 13 #[.slice a m c, .int .i64 n] w (GetPost (getBits b n) w) := by
  obtain ⟨i0, hi, hz0, hz1, hz2⟩ := info_parts bool_info
  have hlen : b.length = m := by simpa using hs.len
  have hnn : -9223372036854775808 ≤ n ∧ n ≤ 9223372036854775807 := wf_i64_iff hn
  obtain ⟨hn1, hn2⟩ := hnn
  obtain ⟨r, hr⟩ : ∃ r, r = getBits b n := ⟨_, rfl⟩
  rw [← hr]
  have Hr := Lib.hid hr
  clear hr
  by_cases h0 : n < 0
  · go_enter Tryz.func13, Tryz.ntmps13
    go_wp2_with fail
    go_ret2
    rw [Hr.out, getBits, if_pos (Or.inl h0)]
    exact ⟨rfl, Keeps.refl _ _⟩
  obtain ⟨k, rfl⟩ := Int.eq_ofNat_of_zero_le (show 0 ≤ n from by omega)
  by_cases h1 : (m : Int) = (k : Int) / 8 + ((k : Int) % 8 + 7) / 8
  case neg =>
    go_enter Tryz.func13, Tryz.ntmps13
    go_wp2_with fail
    go_ret2
    rw [Hr.out, getBits, if_pos (Or.inr (by rw [hlen]; exact h1))]
    exact ⟨rfl, Keeps.refl _ _⟩
  have h1a : (m : Int) ≤ (k : Int) / 8 + ((k : Int) % 8 + 7) / 8 := by omega
  have h1b : (k : Int) / 8 + ((k : Int) % 8 + 7) / 8 ≤ (m : Int) := by omega
  have h1c : ((m : Int) != (k : Int) / 8 + ((k : Int) % 8 + 7) / 8) = false := by rw [bne_eq_false_iff_eq]; exact h1
  clear h1
  have hk : k ≤ 140737488355328 := by omega
  go_enter Tryz.func13, Tryz.ntmps13
  go_wp2_with (at_make; refine wpList_make_full _ rfl _ _ 43 rfl w.heap.size 4 i0 (.bool false) 1 Tryz.underlying43 hi hz0 hz1 _ _ _ _ k rfl rfl ?hL ?hC ?b2 ?b3 ?b4 ?_)
  case hL => rfl
  case hC => rfl
  case b2 => first | omega | (rw [hz2]; omega)
  case b3 => unfold maxLen; omega
  intro w1 hown hg
  go_wp2_with fail
  go_loopw [26] (fun i wr => ∃ j : Nat, j ≤ k ∧ i = .int .i64 j ∧ wr.ownsRow w.heap.size 4 1 (.slice (some ⟨w.heap.size, 0, none⟩) k k) k ((getTo b j ++ List.replicate (k - j) false).map Value.bool) ∧ Keeps No w wr)
    (fun i _ => k - (intOf i).toNat)
  case atStart =>
    refine ⟨0, Nat.zero_le _, rfl, ?_, (Keeps.refl No w).grown hg (fun _ h => by cases h)⟩
    rw [toList_madeCells_one] at hown
    simpa [getTo] using hown
  case round =>
    obtain ⟨j, hj, rfl, hownr, hkr⟩ := hrel
    by_cases hlt : j < k
    · have hix := hs.ixz (P := Tryz.prog) Tryz.underlying22 (by kernel_rfl) ((j : Int) / 8) (i := j / 8) (by omega) (by omega) .i64
      have hc := (hs.kept hkr).at_ (show j / 8 < m by omega)
      obtain ⟨x, hx⟩ : ∃ x, x = b.getD (j / 8) 0 := ⟨_, rfl⟩
      have hb : (b.map byteV).getD (j / 8) undef = .int .u8 (x.toNat : Int) := by
        have : j / 8 < b.length := by omega
        rw [hx]; simp [this, byteV]
      rw [hb] at hc
      have Hx := Lib.hid hx
      have hx1 : (x.toNat : Int) < 256 := by have := x.toNat_lt; omega
      clear hx hb
      have hjl : j < ((getTo b j ++ List.replicate (k - j) false).map Value.bool).length := by simp [getTo]; omega
      have hcell := hownr.cellAt j (by omega)
      rw [List.getElem?_eq_getElem hjl] at hcell
      have hfr := hownr.frozenAt j
      go_wp2_with fail
      go_roundw
      case rel =>
        refine ⟨j + 1, by omega, by go_num, ?_, hkr.setCell (fun h => absurd h (by simp)) _⟩
        rw [← getTo_set b j k hlt, List.map_set, ← Hx.out]
        have e : (bits BinOp.and IntKind.u8 ((x.toNat : Int) / 2 ^ (j % 8)) 1 == 1) = x.toNat.testBit (j % 8) := by
          have := bit_u8 x.toNat (j % 8)
          push_cast at this
          rw [this]
          cases x.toNat.testBit (j % 8) <;> rfl
        rw [e]
        exact (hownr.stored j _).1
      case measure => simp [intOf]; omega
    · obtain rfl : k = j := by omega
      rw [Nat.sub_self, List.replicate_zero, List.append_nil] at hownr
      have hlg : (getTo b k).length = k := by simp [getTo]
      by_cases h8 : k % 8 = 0
      · have h8' : (k : Int) % 8 = 0 := by omega
        go_wp2_with fail
        go_ret2
        rw [Hr.out, getBits, if_neg (by rw [hlen]; omega), if_neg (by omega)]
        exact ⟨_, rfl, by rw [Int.toNat_natCast, hlg]; exact hownr, hkr⟩
      · have hix := hs.ixz (P := Tryz.prog) Tryz.underlying22 (by kernel_rfl) ((k : Int) / 8) (i := k / 8) (by omega) (by omega) .i64
        have hc := (hs.kept hkr).at_ (show k / 8 < m by omega)
        obtain ⟨x, hx⟩ : ∃ x, x = b.getD (k / 8) 0 := ⟨_, rfl⟩
        have hb : (b.map byteV).getD (k / 8) undef = .int .u8 (x.toNat : Int) := by
          have : k / 8 < b.length := by omega
          rw [hx]; simp [this, byteV]
        rw [hb] at hc
        have Hx := Lib.hid hx
        have hx1 : (x.toNat : Int) < 256 := by have := x.toNat_lt; omega
        clear hx hb
        have hpos : (0 : Int) < (k : Int) % 8 := by omega
        have e8 : ((k : Int) / 8).toNat = k / 8 := by omega
        have e9 : ((k : Int) % 8).toNat = k % 8 := by omega
        by_cases hgt : 0 < x.toNat / 2 ^ (k % 8)
        · have hgt' : (0 : Int) < (x.toNat : Int) / 2 ^ (k % 8) := by exact_mod_cast hgt
          have Hgt := Lib.hid hgt
          clear hgt
          go_wp2_with fail
          go_ret2
          rw [Hr.out, getBits, if_neg (by rw [hlen]; omega), if_pos (by rw [e8, e9, ← Hx.out]; exact ⟨by omega, Hgt.out⟩)]
          exact ⟨rfl, hkr⟩
        · have hgt' : ¬ (0 : Int) < (x.toNat : Int) / 2 ^ (k % 8) := by intro h; exact hgt (by exact_mod_cast h)
          have Hgt := Lib.hid hgt
          clear hgt
          go_wp2_with fail
          go_ret2
          rw [Hr.out, getBits, if_neg (by rw [hlen]; omega), if_neg (by rw [e8, e9, ← Hx.out]; exact fun h => Hgt.out h.2)]
          exact ⟨_, rfl, by rw [Int.toNat_natCast, hlg]; exact hownr, hkr⟩

def pop (x : UInt8) : Nat := ((List.range 8).filter fun j => x.toNat.testBit j).length
def popAll (b : List UInt8) : Nat := (b.map pop).sum
theorem pop_le (x : UInt8) : pop x ≤ 8 := by unfold pop; exact Nat.le_trans (List.length_filter_le _ _) (by simp)
theorem popAll_le (b : List UInt8) : popAll b ≤ 8 * b.length := by
  unfold popAll
  induction b with
  | nil => simp
  | cons x b ih => have := pop_le x; simp only [List.map_cons, List.sum_cons, List.length_cons]; omega

theorem pop_lib (x : UInt8) : Lib.onesCount x.toNat = pop x := by
  have h : ∀ n : Fin 256, Lib.onesCount n.val = ((List.range 8).filter fun j => n.val.testBit j).length := by decide +kernel
  exact h ⟨x.toNat, x.toNat_lt⟩
theorem popAll_append (a b : List UInt8) : popAll (a ++ b) = popAll a + popAll b := by simp [popAll]
theorem ones8_any (x : UInt8) (w : World) :
    Calls Tryz.prog 33 #[.int .u8 (x.toNat : Int)] w fun e w' => e = .returned (.int .i64 (pop x)) ∧ w = w' := by
  have hx0 : (0 : Int) ≤ (x.toNat : Int) := by omega
  have hx1 : (x.toNat : Int) ≤ 255 := by have := x.toNat_lt; omega
  go_enter Tryz.func33, Tryz.ntmps33
  go_wp2
  go_ret
  refine ⟨ret_num ?_, rfl⟩
  have h := Lib.pop8_int _ hx0 hx1
  rw [Int.toNat_natCast, pop_lib] at h
  unfold wrap64
  exact h

theorem count_any (a : Option Addr) (m c : Nat) (b : List UInt8) (w : World) (hs : Sl w a m c (b.map byteV)) (hm : m ≤ 140737488351232) :
    Calls Tryz.prog 15 #[.slice a m c] w fun e w' => e = .returned (.int .i64 (popAll b)) ∧ w = w' := by
  have hlen : b.length = m := by simpa using hs.len
  go_enter Tryz.func15, Tryz.ntmps15
  go_wp2_with fail
  go_loop [8, 3] (fun i s => ∃ j : Nat, j ≤ m ∧ i = .int .i64 j ∧ s = .int .i64 (popAll (b.take j))) (fun i _ => m - (intOf i).toNat)
  case atStart => exact ⟨0, Nat.zero_le _, rfl, rfl⟩
  case round =>
    obtain ⟨j, hj, rfl, rfl⟩ := hrel
    have hle := popAll_le (b.take j)
    have hle2 : (b.take j).length ≤ m := by simp; omega
    by_cases hlt : j < m
    · have hix := hs.ix (P := Tryz.prog) Tryz.underlying22 (by kernel_rfl) hlt .i64
      have hc := hs.at_ hlt
      obtain ⟨x, hx⟩ : ∃ x, x = b.getD j 0 := ⟨_, rfl⟩
      have hjb : j < b.length := by omega
      have hb : (b.map byteV).getD j undef = .int .u8 (x.toNat : Int) := by rw [hx]; simp [hjb, byteV]
      rw [hb] at hc
      have hsum : popAll (b.take (j + 1)) = popAll (b.take j) + pop x := by
        unfold popAll; rw [List.take_succ_eq_append_getElem hjb, List.map_append, List.sum_append, hx]; simp [hjb]
      have Hs := Lib.hid hsum
      have hp := pop_le x
      clear hx hb hsum
      go_wp2_with (go_at_call 33; refine (ones8_any _ _).mono ?_; rintro e w' ⟨rfl, rfl⟩)
      go_round
      case rel => exact ⟨j + 1, by omega, by go_num, by rw [Hs.out]; go_num⟩
      case measure => simp [intOf]; omega
    · obtain rfl : m = j := by omega
      rw [List.take_of_length_le (by omega)]
      go_wp2_with fail
      go_ret
      exact ⟨rfl, rfl⟩
end Go.Proofs.YthbipcjgpocpaaaGreat
