/- The walks of the document's answer for layer 10: Put, Bits, Get, Same, each once. -/
import Derived.Test.YthbipcjgpocpaaaGreatBitmap
namespace Go.Proofs.YthbipcjgpocpaaaGreat
set_option linter.unusedSimpArgs false
set_option linter.unusedVariables false
open Go.RowKit

/-- The number whose bits, the lowest first, are l. -/
def val : List Bool → Nat
  | [] => 0
  | b :: t => (if b then 1 else 0) + 2 * val t
theorem val_lt (l : List Bool) : val l < 2 ^ l.length := by
  induction l with
  | nil => simp [val]
  | cons b t ih => simp only [val, List.length_cons, Nat.pow_succ]; split <;> omega
theorem val_snoc (l : List Bool) (b : Bool) : val (l ++ [b]) = val l + if b then 2 ^ l.length else 0 := by
  induction l with
  | nil => cases b <;> simp [val]
  | cons c t ih => simp only [List.cons_append, val, ih, List.length_cons, Nat.pow_succ]; split <;> split <;> omega

def refPut (l : List Bool) : List UInt8 := if _h : l = [] then [] else UInt8.ofNat (val (l.take 8)) :: refPut (l.drop 8)
termination_by l.length
decreasing_by cases l with | nil => contradiction | cons a t => simp; omega
theorem refPut_nil : refPut [] = [] := by rw [refPut]; simp
theorem refPut_step (l : List Bool) (h : 0 < l.length) : refPut l = UInt8.ofNat (val (l.take 8)) :: refPut (l.drop 8) := by
  rw [refPut]; rw [dif_neg (by intro e; subst e; simp at h)]

set_option maxHeartbeats 1000000 in
theorem refPut_any (a : Option Addr) (n c : Nat) (l : List Bool) (w : World) (hs : Sl w a n c (l.map Value.bool)) (hn : n ≤ 140737488351232) :
    Calls Tryz.prog 43 #[.slice a n c] w fun e w' =>
      ∃ v, e = .returned v ∧ w'.ownsRow w.heap.size 5 1 v (refPut l).length ((refPut l).map byteV) ∧ Keeps No w w' := by
  have hlen : l.length = n := by simpa using hs.len
  go_enter Tryz.func43, Tryz.ntmps43
  go_wp2_with fail
  go_loopw [0, 3, 4, 5, 6] (fun s out _ _ _ wr => ∃ (a' : Option Addr) (c' : Nat) (r : List Bool) (d : List UInt8), s = .slice a' r.length c' ∧ Sl w a' r.length c' (r.map Value.bool) ∧
      r.length + d.length ≤ n ∧ wr.ownsRow w.heap.size 5 1 out d.length (d.map byteV) ∧ refPut l = d ++ refPut r ∧ Keeps No w wr)
    (fun s _ _ _ _ _ => lenOf s)
  case atStart =>
    exact ⟨a, c, l, [], by rw [hlen], by rw [hlen]; exact hs, by simp [hlen], World.ownsRow_nil _ _ _ _, rfl, Keeps.refl _ _⟩
  case round =>
    obtain ⟨a', c', r, d, rfl, hsr, hsum, hown, hval, hkr⟩ := hrel
    by_cases hlt : 0 < r.length
    · obtain ⟨q, hq⟩ : ∃ q, q = min 8 r.length := ⟨_, rfl⟩
      have hq1 : q ≤ 8 := by omega
      have hq2 : q ≤ r.length := by omega
      have hq3 : 0 < q := by omega
      have Hq := Lib.hid hq
      clear hq
      have Hval := Lib.hid hval
      clear hval
      go_wp2_with fail
      go_loop [6, 4, 5] (fun i cc uu => ∃ j : Nat, j ≤ q ∧ i = .int .i64 j ∧ cc = .int .i64 (val (r.take j)) ∧ uu = .int .i64 ((2 ^ j : Nat) : Int)) (fun i _ _ => q - (intOf i).toNat)
      case atStart => exact ⟨0, Nat.zero_le _, rfl, rfl, rfl⟩
      case round =>
        obtain ⟨j, hj, rfl, rfl, rfl⟩ := hrel
        have hv := val_lt (r.take j)
        have hpl : 2 ^ (r.take j).length ≤ 2 ^ 8 := Nat.pow_le_pow_right (by decide) (by simp; omega)
        have hp8 : 2 ^ j ≤ 2 ^ 8 := Nat.pow_le_pow_right (by decide) (by omega)
        obtain ⟨v, hvv⟩ : ∃ v, v = val (r.take j) := ⟨_, rfl⟩
        obtain ⟨p, hpp⟩ : ∃ p, p = 2 ^ j := ⟨_, rfl⟩
        rw [← hvv] at hv ⊢
        rw [← hpp] at hp8 ⊢
        have hv2 : v < 256 := by omega
        have hp2 : p ≤ 256 := by omega
        have Hv := Lib.hid hvv
        have Hp := Lib.hid hpp
        clear hvv hpp hv hpl hp8
        by_cases hjq : j < q
        · have hjr : j < r.length := by omega
          have hix := hsr.ix (P := Tryz.prog) Tryz.underlying43 (by kernel_rfl) hjr .i64
          have hc := (hsr.kept hkr).at_ hjr
          obtain ⟨t, ht⟩ : ∃ t, t = r[j] := ⟨_, rfl⟩
          have hb : (r.map Value.bool).getD j undef = .bool t := by rw [ht]; simp [hjr]
          rw [hb] at hc
          have hsn : val (r.take (j + 1)) = v + if t then p else 0 := by
            rw [List.take_succ_eq_append_getElem hjr, val_snoc, ← Hv.out, ← ht, List.length_take, Nat.min_eq_left (by omega), ← Hp.out]
          have hpn : 2 ^ (j + 1) = 2 * p := by rw [Nat.pow_succ, ← Hp.out]; omega
          have Hs := Lib.hid hsn
          have Hn := Lib.hid hpn
          have Hb := Lib.hid hb
          have Ht := Lib.hid ht
          clear hsn hpn hb ht
          cases t
          all_goals
            go_wp2_with fail
            go_round
            case rel => exact ⟨j + 1, by omega, by go_num, by rw [Hs.out]; go_num, by rw [Hn.out]; go_num⟩
            case measure => simp [intOf]; omega
        · obtain rfl : q = j := by omega
          rcases (show (q < 8 ∧ r.length ≤ q) ∨ 8 ≤ q from by have := Hq.out; omega) with ⟨h8, h8'⟩ | h8
          all_goals
            go_wp2_with (at_builtin; go_loud (refine app_own rfl _ _ 22 rfl w.heap.size 5 (.int .u8 0) 1 Tryz.underlying22 ones_info rfl (by decide) _ d.length (d.map byteV) rfl (hown.alloc _) _ 1 1 [.int .u8 v] rfl (Sl.one _ _ _) ?h1 ?hb ?hB ?_))
            case h1 => first | rfl | (intro u hu; simp at hu; subst hu; rfl)
            case hb => omega
            case hB => have := hkr.size; simp; omega
            intro v' w1 hown1 hg1
            go_wp2_with fail
            go_roundw
            case rel =>
              have hq := Hq.out
              have hstep : refPut l = (d ++ [UInt8.ofNat v]) ++ refPut (r.drop q) := by
                rw [Hval.out, refPut_step r hlt, Hv.out]
                have e1 : r.take 8 = r.take q := by rw [hq, List.take_eq_take_iff]; omega
                have e2 : r.drop 8 = r.drop q := by
                  rcases (show q = 8 ∨ (q < 8 ∧ q = r.length) from by omega) with h | ⟨h, h'⟩
                  · rw [h]
                  · rw [h', List.drop_of_length_le (by omega), List.drop_of_length_le (by omega)]
                rw [e1, e2]
                simp
              have hv8 : byteV (UInt8.ofNat v) = .int .u8 (v : Int) := by unfold byteV; rw [UInt8.toNat_ofNat']; congr 1; omega
              have hown2 : w1.ownsRow w.heap.size 5 1 v' (d ++ [UInt8.ofNat v]).length ((d ++ [UInt8.ofNat v]).map byteV) := by
                rw [List.length_append, List.map_append, List.map_cons, List.map_nil, hv8]
                exact hown1
              have hk1 : Keeps No w w1 := (hkr.alloc _).grown hg1 (fun k hk hlt => absurd hlt (by
                have := hown.lt k hk
                omega))
              have hdr := hsr.dropv (k := q) (by omega)
              rw [← List.map_drop] at hdr
              first
              | (have h : q = 8 := by omega
                 subst h
                 exact ⟨_, c' - 8, r.drop 8, d ++ [UInt8.ofNat v], congrArg (fun n => Value.slice (if c' = 8 then a' else a'.map (·.add 8)) n (c' - 8)) List.length_drop.symm, by rw [List.length_drop]; exact hdr, by simp; omega, hown2, hstep, hk1⟩)
              | (have h' : q = r.length := by omega
                 rw [h'] at hdr hstep
                 rw [List.drop_length] at hdr hstep
                 exact ⟨_, c' - r.length, [], d ++ [UInt8.ofNat v], rfl, by rw [Nat.sub_self] at hdr; exact hdr, by simp; omega, hown2, hstep, hk1⟩)
            case measure => simp [lenOf]; omega
    · have hr : r = [] := List.eq_nil_of_length_eq_zero (by omega)
      subst hr
      rw [refPut_nil, List.append_nil] at hval
      go_wp2_with fail
      go_ret
      exact ⟨_, rfl, by rw [hval]; exact hown, hkr⟩

def bitsTo (x : UInt8) (j : Nat) : List Bool := (List.range j).map fun i => x.toNat.testBit i
def bitsOf (b : List UInt8) : List Bool := b.flatMap fun x => bitsTo x 8
theorem bitsOf_length (b : List UInt8) : (bitsOf b).length = 8 * b.length := by
  induction b with
  | nil => rfl
  | cons x b ih => simp only [bitsOf, List.flatMap_cons, List.length_append, List.length_cons] at *; rw [ih]; simp [bitsTo]; omega
theorem bitsTo_length (x : UInt8) (j : Nat) : (bitsTo x j).length = j := by simp [bitsTo]
theorem bitsTo_succ (x : UInt8) (j : Nat) : bitsTo x (j + 1) = bitsTo x j ++ [x.toNat.testBit j] := by simp [bitsTo, List.range_succ]
theorem bitsOf_take (b : List UInt8) (k : Nat) (h : k < b.length) : bitsOf (b.take (k + 1)) = bitsOf (b.take k) ++ bitsTo b[k] 8 := by
  unfold bitsOf
  rw [List.take_succ_eq_append_getElem h, List.flatMap_append]
  simp

set_option maxHeartbeats 1000000 in
theorem refBits_any (a : Option Addr) (m c : Nat) (b : List UInt8) (w : World) (hs : Sl w a m c (b.map byteV)) (hm : m ≤ 17592186044415) :
    Calls Tryz.prog 34 #[.slice a m c] w fun e w' =>
      ∃ v, e = .returned v ∧ w'.ownsRow w.heap.size 4 1 v (bitsOf b).length ((bitsOf b).map Value.bool) ∧ Keeps No w w' := by
  have hlen : b.length = m := by simpa using hs.len
  go_enter Tryz.func34, Tryz.ntmps34
  go_wp2_with fail
  go_loopw [9, 3, 5, 6] (fun i out _ _ wr => ∃ k : Nat, k ≤ m ∧ i = .int .i64 k ∧ wr.ownsRow w.heap.size 4 1 out (8 * k) ((bitsOf (b.take k)).map Value.bool) ∧ Keeps No w wr)
    (fun i _ _ _ _ => m - (intOf i).toNat)
  case atStart => exact ⟨0, Nat.zero_le _, rfl, World.ownsRow_nil _ _ _ _, Keeps.refl _ _⟩
  case round =>
    obtain ⟨k, hk, rfl, hown, hkr⟩ := hrel
    by_cases hlt : k < m
    · have hkb : k < b.length := by omega
      have hix := hs.ix (P := Tryz.prog) Tryz.underlying22 (by kernel_rfl) hlt .i64
      have hc := (hs.kept hkr).at_ hlt
      obtain ⟨x, hx⟩ : ∃ x, x = b[k] := ⟨_, rfl⟩
      have hb : (b.map byteV).getD k undef = .int .u8 (x.toNat : Int) := by rw [hx]; simp [hkb, byteV]
      rw [hb] at hc
      have Hx := Lib.hid hx
      clear hx hb
      obtain ⟨wo, hwo⟩ : ∃ wo : World, wo = wr := ⟨_, rfl⟩
      subst hwo
      go_wp2_with fail
      go_loopw [6, 5, 3] (fun i cc out wi => ∃ j : Nat, j ≤ 8 ∧ i = .int .i64 j ∧ cc = .int .u8 ((x.toNat / 2 ^ j : Nat) : Int) ∧ wi.ownsRow w.heap.size 4 1 out (8 * k + j) ((bitsOf (b.take k) ++ bitsTo x j).map Value.bool) ∧ Keeps No w wi)
        (fun i _ _ _ => 8 - (intOf i).toNat)
      case atStart => exact ⟨0, by omega, rfl, by simp, by simpa [bitsTo] using hown, hkr⟩
      case round =>
        obtain ⟨j, hj, rfl, rfl, hown2, hkr2⟩ := hrel
        obtain ⟨y, hy⟩ : ∃ y, y = x.toNat / 2 ^ j := ⟨_, rfl⟩
        rw [← hy]
        have hy2 : y < 256 := by rw [hy]; exact Nat.lt_of_le_of_lt (Nat.div_le_self _ _) x.toNat_lt
        have Hy := Lib.hid hy
        clear hy
        by_cases hj8 : j < 8
        · go_wp2_with (at_builtin; refine app_own rfl _ _ 43 rfl w.heap.size 4 (.bool false) 1 Tryz.underlying43 bool_info rfl (by decide) _ (8 * k + j) ((bitsOf (b.take k) ++ bitsTo x j).map Value.bool) rfl (hown2.alloc _) _ 1 1 [.bool _] rfl (Sl.one _ _ _) ?h1 ?hb ?hB ?_)
          case h1 => first | rfl | (intro u hu; simp at hu; subst hu; rfl)
          case hb => omega
          case hB => have := hkr2.size; simp; omega
          intro v' w1 hown3 hg1
          go_wp2_with fail
          go_roundw
          case rel =>
            refine ⟨j + 1, by omega, by go_num, ?_, ?_, (hkr2.alloc _).grown hg1 (fun k hk hlt => absurd hlt (by have := hown2.lt k hk; omega))⟩
            · rw [Nat.pow_succ, ← Nat.div_div_eq_div_mul, ← Hy.out]; go_num
            · rw [bitsTo_succ, ← List.append_assoc, List.map_append, ← Nat.add_assoc]
              have e : (((y : Int) % 2 == 1) : Bool) = x.toNat.testBit j := by
                rw [Nat.testBit_eq_decide_div_mod_eq, ← Hy.out]
                by_cases h : y % 2 = 1
                · have : (y : Int) % 2 = 1 := by omega
                  simp [h, this]
                · have : (y : Int) % 2 = 0 := by omega
                  simp [h, this]
              rw [e] at hown3
              simpa only [List.map_append, List.append_assoc, List.map_cons, List.map_nil] using hown3
          case measure => simp [intOf]; omega
        · obtain rfl : j = 8 := by omega
          go_wp2_with fail
          go_roundw
          case rel => exact ⟨k + 1, by omega, by go_num, by rw [bitsOf_take b k hkb, ← Hx.out, show 8 * (k + 1) = 8 * k + 8 from by omega]; exact hown2, hkr2⟩
          case measure => simp [intOf]; omega
    · obtain rfl : m = k := by omega
      rw [List.take_of_length_le (by omega)] at hown
      have hbl := bitsOf_length b
      go_wp2_with fail
      go_ret
      exact ⟨_, rfl, by rw [hbl, hlen]; exact hown, hkr⟩

def refGet (b : List UInt8) (n : Int) : Option (List Bool) :=
  if n < 0 ∨ n > (bitsOf b).length ∨ (7 < (bitsOf b).length ∧ n ≤ (bitsOf b).length - 8) ∨ (n = 0 ∧ 0 < (bitsOf b).length) then none
  else if ((bitsOf b).drop n.toNat).any id then none
  else some ((bitsOf b).take n.toNat)

def RefGetPost (r : Option (List Bool)) (w : World) (e : Ending) (w' : World) : Prop :=
  match r with
  | none => e = .returned (.tuple #[.slice none 0 0, .bool false]) ∧ Keeps No w w'
  | some l => ∃ a c, e = .returned (.tuple #[.slice a l.length c, .bool true]) ∧ Sl w' a l.length c (l.map Value.bool) ∧ Keeps No w w'

set_option maxHeartbeats 1000000 in
theorem refGet_any (a : Option Addr) (m c : Nat) (b : List UInt8) (n : Int) (w : World) (hs : Sl w a m c (b.map byteV)) (hm : m ≤ 17592186044415) (hn : (Lit.int .i64 n).wf = true) :
    Calls Tryz.prog 18 #[.slice a m c, .int .i64 n] w (RefGetPost (refGet b n) w) := by
  obtain ⟨hn1, hn2⟩ := wf_i64_iff hn
  have hlen : b.length = m := by simpa using hs.len
  have hL := bitsOf_length b
  rw [hlen] at hL
  obtain ⟨r, hr⟩ : ∃ r, r = refGet b n := ⟨_, rfl⟩
  rw [← hr]
  unfold refGet at hr
  generalize hB : bitsOf b = B at hr hL
  have HB := Lib.hid hB
  have Hr := Lib.hid hr
  clear hr hB
  obtain ⟨L, hL2⟩ : ∃ L, L = B.length := ⟨_, rfl⟩
  have hLm : L ≤ 8 * m := by omega
  have hL8 : L ≤ 0 ∨ 8 ≤ L := by omega
  have HL := Lib.hid hL2
  rw [← hL2] at hL
  have HLm := Lib.hid hL
  clear hL hL2
  by_cases hbad : n < 0 ∨ n > L ∨ (7 < L ∧ n ≤ L - 8) ∨ (n = 0 ∧ 0 < L)
  · have hr : r = none := by have := Hr.out; rw [← HL.out, if_pos hbad] at this; exact this
    have Hr2 := Lib.hid hr
    clear hr Hr
    go_enter Tryz.func18, Tryz.ntmps18
    go_wp2_with fail
    refine (refBits_any a m c b w hs hm).mono ?_
    rintro e w1 ⟨v, rfl, hown, hk1⟩
    rw [HB.out, ← HL.out] at hown
    obtain ⟨a1, c1, rfl, hs1, _⟩ := Sl.ofOwn hown
    clear hown
    rcases (show n < 0 ∨ (0 ≤ n ∧ n > L) ∨ (0 ≤ n ∧ n ≤ L ∧ 7 < L ∧ n ≤ L - 8) from by omega) with h | ⟨h, h'⟩ | ⟨h, h', h'', h3⟩
    all_goals
      go_wp2_with fail
      go_ret2
      rw [Hr2.out]
      exact ⟨rfl, hk1⟩
  · have hr : r = if (B.drop n.toNat).any id then none else some (B.take n.toNat) := by have := Hr.out; rw [← HL.out, if_neg hbad] at this; exact this
    have Hr2 := Lib.hid hr
    clear hr Hr
    obtain ⟨k, rfl⟩ := Int.eq_ofNat_of_zero_le (show 0 ≤ n from by omega)
    have hkL : k ≤ L := by omega
    have h7 : L ≤ 7 ∨ L < k + 8 := by omega
    have h0 : 0 < k ∨ L ≤ 0 := by omega
    clear hbad
    go_enter Tryz.func18, Tryz.ntmps18
    go_wp2_with fail
    refine (refBits_any a m c b w hs hm).mono ?_
    rintro e w1 ⟨v, rfl, hown, hk1⟩
    rw [HB.out, ← HL.out] at hown
    obtain ⟨a1, c1, rfl, hs1, _⟩ := Sl.ofOwn hown
    clear hown
    have hle1 := hs1.le
    have hmax := hs1.max
    unfold maxLen at hmax
    have hk0 : (0 : Int) ≤ (k : Int) := by omega
    have hk00 : ¬ (k : Int) < 0 := by omega
    rcases (show (L = 0 ∧ k = 0) ∨ (7 < L ∧ L < k + 8 ∧ 0 < k) from by omega) with ⟨h, h'⟩ | ⟨h, h', h''⟩
    · subst h'
      subst h
      have hB0 : B = [] := List.eq_nil_of_length_eq_zero HL.out.symm
      have Hb0 := Lib.hid hB0
      clear hB0
      go_wp2_with fail
      go_loop [44] (fun i => i = .int .i64 0) (fun _ => 0)
      case atStart => rfl
      case round =>
        subst hrel
        go_wp2_with fail
        go_ret2
        rw [Hr2.out, Hb0.out]
        rw [Hb0.out] at hs1
        exact ⟨_, _, rfl, hs1, hk1⟩
    · obtain ⟨a2, hr1, hr2, hs2, _⟩ := hs1.from_ (P := Tryz.prog) Tryz.underlying43 (by kernel_rfl) hkL .i64 _ rfl
      have hs3 := hs1.takev hkL
      go_wp2_with fail
      go_loop [44] (fun i => ∃ j : Nat, j ≤ L - k ∧ i = .int .i64 j ∧ ((B.drop k).take j).any id = false) (fun i => (L - k) - (intOf i).toNat)
      case atStart => exact ⟨0, Nat.zero_le _, rfl, by simp⟩
      case round =>
        obtain ⟨j, hj, rfl, hany⟩ := hrel
        have Hany := Lib.hid hany
        clear hany
        by_cases hlt : j < L - k
        · have hix := hs2.ix (P := Tryz.prog) Tryz.underlying43 (by kernel_rfl) hlt .i64
          have hc := hs2.at_ hlt
          have hjB : j < (B.drop k).length := by rw [List.length_drop, ← HL.out]; exact hlt
          obtain ⟨t, ht⟩ : ∃ t, t = (B.drop k)[j] := ⟨_, rfl⟩
          have hb : ((B.map Value.bool).drop k).getD j undef = .bool t := by
            rw [← List.map_drop, ht]
            simp only [List.getD_eq_getElem?_getD, List.getElem?_map, List.getElem?_eq_getElem hjB, Option.map_some, Option.getD_some]
          rw [hb] at hc
          have Hb := Lib.hid hb
          have Ht := Lib.hid ht
          clear hb ht
          cases t
          · go_wp2_with fail
            go_round
            case rel => exact ⟨j + 1, by omega, by go_num, by rw [List.take_succ_eq_append_getElem hjB, List.any_append, Hany.out, ← Ht.out]; rfl⟩
            case measure => simp [intOf]; omega
          · go_wp2_with fail
            go_ret2
            have hany : (B.drop k).any id = true := by rw [List.any_eq_true]; exact ⟨_, List.getElem_mem hjB, by rw [← Ht.out]; rfl⟩
            rw [Hr2.out, Int.toNat_natCast, if_pos hany]
            exact ⟨rfl, hk1⟩
        · obtain rfl : j = L - k := by omega
          go_wp2_with fail
          go_ret2
          have hany := Hany.out
          rw [List.take_of_length_le (by rw [List.length_drop, ← HL.out]; exact Nat.le_refl _)] at hany
          rw [Hr2.out, Int.toNat_natCast, if_neg (by rw [hany]; decide)]
          have hlt : (B.take k).length = k := by rw [List.length_take, ← HL.out]; omega
          refine ⟨a1, c1, ?_, by rw [hlt, List.map_take]; exact hs3, hk1⟩
          rw [hlt]
          rfl

end Go.Proofs.YthbipcjgpocpaaaGreat
