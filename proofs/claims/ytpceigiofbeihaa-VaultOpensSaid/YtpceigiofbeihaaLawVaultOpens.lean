/- The walk of the law VaultOpens. -/
import Derived.Test.YtpceigiofbeihaaLawFiveF
namespace Go.Proofs.Ytpceigiofbeihaa
open Go.RowKit
set_option linter.unusedSimpArgs false
set_option linter.unusedVariables false
attribute [local go_sem high] run_min_ints3

def k100 : K3 := (⟨1, by decide⟩, ⟨0, by decide⟩, ⟨0, by decide⟩)
def otherA (j : Nat) : List AE := List.replicate j (k100, ⟨#[111, 116, 104, 101, 114]⟩, [])
theorem otherA_seal (j : Nat) : sealA (otherA j) [] k100 ⟨#[111, 116, 104, 101, 114]⟩ [] = (otherA (j + 1), j + 1, 0) := by
  have h : ¬ badKey k100 := by decide
  unfold sealA
  rw [if_neg (by simp [h]), if_neg (by simp)]
  simp [otherA, List.replicate_succ']
theorem otherA_at (j : Nat) (e : AE) : (otherA j ++ [e])[j]? = some e := by simp [otherA]
theorem otherA_end (j : Nat) (e : AE) : (otherA j ++ [e])[j + 1]? = none := by simp [otherA]

theorem run_max_ints4 {P : Program} (w : World) (ts : Array TypeId) (t : TypeId) (x y z u : Int) : (Builtin.max_ ts t #[.int .i64 x, .int .i64 y, .int .i64 z, .int .i64 u]).run P w = .ok (.int .i64 (max x (max y (max z u)))) w := by
  have e : ∀ a b : Int, (if b > a then b else a) = max a b := fun a b => by
    rw [Int.max_def]
    split <;> split <;> omega
  simp [Builtin.max_, Builtin.max2, e]
attribute [local go_sem high] run_max_ints4

set_option maxRecDepth 100000 in
set_option maxHeartbeats 8000000 in
theorem vaultOpens_any (ki : Int) (k : K3) (bs : ByteArray) (aa : Option Addr) (na ca : Nat) (p : List UInt8) (hh : Int) (ki' : Int) (k' : K3) (bs' : ByteArray) (aa' : Option Addr) (na' ca' : Nat) (p' : List UInt8) (hh' : Int) (oth : Int) (w : World)
    (hs : Sl w aa na ca (p.map byteV)) (hb : bs.size ≤ maxLen) (hs' : Sl w aa' na' ca' (p'.map byteV)) (hb' : bs'.size ≤ maxLen) (ho : (Lit.int .u8 oth).wf = true) :
    Calls Try.prog 8 #[.agg #[.int .i64 ki, .int .i64 k.1.1, .int .i64 k.2.1.1, .int .i64 k.2.2.1, .string bs, .slice aa na ca, .int .u64 hh], .agg #[.int .i64 ki', .int .i64 k'.1.1, .int .i64 k'.2.1.1, .int .i64 k'.2.2.1, .string bs', .slice aa' na' ca', .int .u64 hh'], .int .u8 oth] w fun e w' => e = .returned (.bool true) ∧ Keeps No w w' := by
  obtain ⟨q, rfl, hq⟩ := wf_u8_nat ho
  clear ho
  have hm := hs.max
  have hle := hs.le
  have hm' := hs'.max
  have hle' := hs'.le
  have hbl := hb
  have hbl' := hb'
  unfold maxLen at hm hm' hbl hbl'
  have hbadiff : badKey k ↔ min k.1.1 (min k.2.1.1 k.2.2.1) < 0 := by unfold badKey; omega
  have Hbad := Lib.hid hbadiff
  clear hbadiff
  have hplen : p.length = na := by simpa using hs.len
  have Hplen := Lib.hid hplen
  clear hplen
  have hkAB : Keeps No w ((w.alloc (.cells #[.int .i64 ki, .int .i64 k.1.1, .int .i64 k.2.1.1, .int .i64 k.2.2.1, .string bs, .slice aa na ca, .int .u64 hh] 64)).alloc (.cells #[.int .i64 ki', .int .i64 k'.1.1, .int .i64 k'.2.1.1, .int .i64 k'.2.2.1, .string bs', .slice aa' na' ca', .int .u64 hh'] 64)) := ((Keeps.refl No w).alloc _).alloc _
  have hB1 : ((w.alloc (.cells #[.int .i64 ki, .int .i64 k.1.1, .int .i64 k.2.1.1, .int .i64 k.2.2.1, .string bs, .slice aa na ca, .int .u64 hh] 64)).alloc (.cells #[.int .i64 ki', .int .i64 k'.1.1, .int .i64 k'.2.1.1, .int .i64 k'.2.2.1, .string bs', .slice aa' na' ca', .int .u64 hh'] 64)).heap[w.heap.size]? = some (.cells #[.int .i64 ki, .int .i64 k.1.1, .int .i64 k.2.1.1, .int .i64 k.2.2.1, .string bs, .slice aa na ca, .int .u64 hh] 64 (0, 0)) := ((Keeps.refl No (w.alloc (.cells #[.int .i64 ki, .int .i64 k.1.1, .int .i64 k.2.1.1, .int .i64 k.2.2.1, .string bs, .slice aa na ca, .int .u64 hh] 64))).alloc _).blk (heap_alloc_new w _) (not_No _)
  have hB2 : ((w.alloc (.cells #[.int .i64 ki, .int .i64 k.1.1, .int .i64 k.2.1.1, .int .i64 k.2.2.1, .string bs, .slice aa na ca, .int .u64 hh] 64)).alloc (.cells #[.int .i64 ki', .int .i64 k'.1.1, .int .i64 k'.2.1.1, .int .i64 k'.2.2.1, .string bs', .slice aa' na' ca', .int .u64 hh'] 64)).heap[w.heap.size + 1]? = some (.cells #[.int .i64 ki', .int .i64 k'.1.1, .int .i64 k'.2.1.1, .int .i64 k'.2.2.1, .string bs', .slice aa' na' ca', .int .u64 hh'] 64 (0, 0)) := by
    have := heap_alloc_new (w.alloc (.cells #[.int .i64 ki, .int .i64 k.1.1, .int .i64 k.2.1.1, .int .i64 k.2.2.1, .string bs, .slice aa na ca, .int .u64 hh] 64)) (.cells #[.int .i64 ki', .int .i64 k'.1.1, .int .i64 k'.2.1.1, .int .i64 k'.2.2.1, .string bs', .slice aa' na' ca', .int .u64 hh'] 64)
    rw [show (w.alloc (.cells #[.int .i64 ki, .int .i64 k.1.1, .int .i64 k.2.1.1, .int .i64 k.2.2.1, .string bs, .slice aa na ca, .int .u64 hh] 64)).heap.size = w.heap.size + 1 from by simp] at this
    exact this
  have hc0 : ∀ wx, Keeps No ((w.alloc (.cells #[.int .i64 ki, .int .i64 k.1.1, .int .i64 k.2.1.1, .int .i64 k.2.2.1, .string bs, .slice aa na ca, .int .u64 hh] 64)).alloc (.cells #[.int .i64 ki', .int .i64 k'.1.1, .int .i64 k'.2.1.1, .int .i64 k'.2.2.1, .string bs', .slice aa' na' ca', .int .u64 hh'] 64)) wx → wx.cell? ⟨w.heap.size, 1, none⟩ = some (.int .i64 k.1.1) := fun wx hx => cell_of_row wx _ 1 _ _ (0, 0) (hx.blk hB1 (not_No _))
  have hc1 : ∀ wx, Keeps No ((w.alloc (.cells #[.int .i64 ki, .int .i64 k.1.1, .int .i64 k.2.1.1, .int .i64 k.2.2.1, .string bs, .slice aa na ca, .int .u64 hh] 64)).alloc (.cells #[.int .i64 ki', .int .i64 k'.1.1, .int .i64 k'.2.1.1, .int .i64 k'.2.2.1, .string bs', .slice aa' na' ca', .int .u64 hh'] 64)) wx → wx.cell? ⟨w.heap.size, 2, none⟩ = some (.int .i64 k.2.1.1) := fun wx hx => cell_of_row wx _ 2 _ _ (0, 0) (hx.blk hB1 (not_No _))
  have hc2 : ∀ wx, Keeps No ((w.alloc (.cells #[.int .i64 ki, .int .i64 k.1.1, .int .i64 k.2.1.1, .int .i64 k.2.2.1, .string bs, .slice aa na ca, .int .u64 hh] 64)).alloc (.cells #[.int .i64 ki', .int .i64 k'.1.1, .int .i64 k'.2.1.1, .int .i64 k'.2.2.1, .string bs', .slice aa' na' ca', .int .u64 hh'] 64)) wx → wx.cell? ⟨w.heap.size, 3, none⟩ = some (.int .i64 k.2.2.1) := fun wx hx => cell_of_row wx _ 3 _ _ (0, 0) (hx.blk hB1 (not_No _))
  have hc3 : ∀ wx, Keeps No ((w.alloc (.cells #[.int .i64 ki, .int .i64 k.1.1, .int .i64 k.2.1.1, .int .i64 k.2.2.1, .string bs, .slice aa na ca, .int .u64 hh] 64)).alloc (.cells #[.int .i64 ki', .int .i64 k'.1.1, .int .i64 k'.2.1.1, .int .i64 k'.2.2.1, .string bs', .slice aa' na' ca', .int .u64 hh'] 64)) wx → wx.cell? ⟨w.heap.size, 4, none⟩ = some (.string bs) := fun wx hx => cell_of_row wx _ 4 _ _ (0, 0) (hx.blk hB1 (not_No _))
  have hc4 : ∀ wx, Keeps No ((w.alloc (.cells #[.int .i64 ki, .int .i64 k.1.1, .int .i64 k.2.1.1, .int .i64 k.2.2.1, .string bs, .slice aa na ca, .int .u64 hh] 64)).alloc (.cells #[.int .i64 ki', .int .i64 k'.1.1, .int .i64 k'.2.1.1, .int .i64 k'.2.2.1, .string bs', .slice aa' na' ca', .int .u64 hh'] 64)) wx → wx.cell? ⟨w.heap.size, 5, none⟩ = some (.slice aa na ca) := fun wx hx => cell_of_row wx _ 5 _ _ (0, 0) (hx.blk hB1 (not_No _))
  have hc5 : ∀ wx, Keeps No ((w.alloc (.cells #[.int .i64 ki, .int .i64 k.1.1, .int .i64 k.2.1.1, .int .i64 k.2.2.1, .string bs, .slice aa na ca, .int .u64 hh] 64)).alloc (.cells #[.int .i64 ki', .int .i64 k'.1.1, .int .i64 k'.2.1.1, .int .i64 k'.2.2.1, .string bs', .slice aa' na' ca', .int .u64 hh'] 64)) wx → wx.cell? ⟨w.heap.size + 1, 1, none⟩ = some (.int .i64 k'.1.1) := fun wx hx => cell_of_row wx _ 1 _ _ (0, 0) (hx.blk hB2 (not_No _))
  have hc6 : ∀ wx, Keeps No ((w.alloc (.cells #[.int .i64 ki, .int .i64 k.1.1, .int .i64 k.2.1.1, .int .i64 k.2.2.1, .string bs, .slice aa na ca, .int .u64 hh] 64)).alloc (.cells #[.int .i64 ki', .int .i64 k'.1.1, .int .i64 k'.2.1.1, .int .i64 k'.2.2.1, .string bs', .slice aa' na' ca', .int .u64 hh'] 64)) wx → wx.cell? ⟨w.heap.size + 1, 2, none⟩ = some (.int .i64 k'.2.1.1) := fun wx hx => cell_of_row wx _ 2 _ _ (0, 0) (hx.blk hB2 (not_No _))
  have hc7 : ∀ wx, Keeps No ((w.alloc (.cells #[.int .i64 ki, .int .i64 k.1.1, .int .i64 k.2.1.1, .int .i64 k.2.2.1, .string bs, .slice aa na ca, .int .u64 hh] 64)).alloc (.cells #[.int .i64 ki', .int .i64 k'.1.1, .int .i64 k'.2.1.1, .int .i64 k'.2.2.1, .string bs', .slice aa' na' ca', .int .u64 hh'] 64)) wx → wx.cell? ⟨w.heap.size + 1, 3, none⟩ = some (.int .i64 k'.2.2.1) := fun wx hx => cell_of_row wx _ 3 _ _ (0, 0) (hx.blk hB2 (not_No _))
  have hc8 : ∀ wx, Keeps No ((w.alloc (.cells #[.int .i64 ki, .int .i64 k.1.1, .int .i64 k.2.1.1, .int .i64 k.2.2.1, .string bs, .slice aa na ca, .int .u64 hh] 64)).alloc (.cells #[.int .i64 ki', .int .i64 k'.1.1, .int .i64 k'.2.1.1, .int .i64 k'.2.2.1, .string bs', .slice aa' na' ca', .int .u64 hh'] 64)) wx → wx.cell? ⟨w.heap.size + 1, 4, none⟩ = some (.string bs') := fun wx hx => cell_of_row wx _ 4 _ _ (0, 0) (hx.blk hB2 (not_No _))
  have hc9 : ∀ wx, Keeps No ((w.alloc (.cells #[.int .i64 ki, .int .i64 k.1.1, .int .i64 k.2.1.1, .int .i64 k.2.2.1, .string bs, .slice aa na ca, .int .u64 hh] 64)).alloc (.cells #[.int .i64 ki', .int .i64 k'.1.1, .int .i64 k'.2.1.1, .int .i64 k'.2.2.1, .string bs', .slice aa' na' ca', .int .u64 hh'] 64)) wx → wx.cell? ⟨w.heap.size + 1, 5, none⟩ = some (.slice aa' na' ca') := fun wx hx => cell_of_row wx _ 5 _ _ (0, 0) (hx.blk hB2 (not_No _))
  go_enter Try.func8, Try.ntmps8
  go_wp2_with fail
  refine (first05_any _).mono ?_
  rintro e w1 ⟨rfl, hk1⟩
  have HB1 := Lib.hid hB1
  clear hB1 hB2
  have hk01 := hkAB.transNo hk1
  by_cases hmx : max (na : Int) (max (na' : Int) (max (bs.size : Int) (bs'.size : Int))) > 1000
  · have hmd : decide (1000 < max (na : Int) (max (na' : Int) (max (bs.size : Int) (bs'.size : Int)))) = true := decide_eq_true hmx
    clear hmx
    go_wp2_with fail
    go_ret
    exact ⟨rfl, hk01⟩
  have hmd : decide (1000 < max (na : Int) (max (na' : Int) (max (bs.size : Int) (bs'.size : Int)))) = false := decide_eq_false hmx
  have hna : na ≤ 1000 := by omega
  have hna' : na' ≤ 1000 := by omega
  clear hmx
  by_cases hbk : badKey k
  · have hb1 : decide (min k.1.1 (min k.2.1.1 k.2.2.1) < 0) = true := decide_eq_true (Hbad.out.1 hbk)
    clear hbk
    go_wp2_with fail
    go_ret
    exact ⟨rfl, hk01⟩
  have hb1 : decide (min k.1.1 (min k.2.1.1 k.2.2.1) < 0) = false := decide_eq_false (fun h => hbk (Hbad.out.2 h))
  have HB := Lib.hid hbk
  clear hbk
  go_wp2_with fail
  refine (va_new w1).mono ?_
  rintro e w2 ⟨b, m, rfl, hV2, hk2⟩
  have hz1 := hk1.size
  clear hmd hb1
  obtain ⟨t, ht⟩ : ∃ t, t = q % 9 := ⟨_, rfl⟩
  have ht9 : t < 9 := by omega
  have et : (q : Int) % 9 = (t : Int) := by omega
  have et2 : (q : Int).tmod 9 = (t : Int) := by rw [Int.tmod_eq_emod_of_nonneg (by omega)]; exact et
  clear ht
  go_wp2_with fail
  go_loopg [60] t (fun r i wr => ∃ (j : Nat) (v : Value), j ≤ t ∧ r = t - j ∧ i = .int .u8 j ∧ VA wr b m v (otherA j) [] (fun i => i < w1.heap.size) ∧ Keeps No w1 wr)
  case atStart => exact ⟨0, _, Nat.zero_le _, rfl, rfl, hV2, hk2⟩
  case round =>
    clear hV2
    obtain ⟨j, v, hj, hr, rfl, hV, hkr⟩ := hrel
    have Hr := Lib.hid hr
    clear hr
    have hzr := hkr.size
    by_cases hlt : j < t
    · have hseal := va_seal b m v (otherA j) [] _ k100 ⟨#[111, 116, 104, 101, 114]⟩ none 0 0 [] wr hV (fun i hi => by omega) (Sl.none _) (by omega) (by simp [otherA]; omega)
      rw [otherA_seal] at hseal
      have hVnot := hV.not
      go_wp2_with fail
      refine hseal.mono ?_
      rintro e w5 ⟨rfl, v', hV5, ho5, hk5⟩
      have hkr5 := hkr.trans hk5 (S := No) (fun i hi h => hVnot i h hi)
      clear hseal
      go_wp2_with fail
      go_roundg (t - (j + 1))
      case measure => have := Hr.out; omega
      case rel => exact ⟨j + 1, v', by omega, rfl, by go_num, hV5, hkr5⟩
    · obtain rfl : t = j := by omega
      have hkBr := hk1.transNo hkr
      have hseal := va_seal b m v (otherA t) [] _ k bs aa na ca p wr hV (fun i hi => by omega) (hs.kept (hkAB.transNo hkBr)) (by omega) (by simp [otherA]; omega)
      rw [show sealA (otherA t) [] k bs p = (otherA t ++ [(k, bs, p)], t + 1, 0) from by
        unfold sealA; rw [if_neg (by rintro (h | h); exact HB.out h; (have := Hplen.out; omega)), if_neg (by simp)]; simp [otherA]] at hseal
      have hVnot := hV.not
      clear Hr
      go_wp2_with fail
      refine hseal.mono ?_
      rintro e w5 ⟨rfl, v', hV5, ho5, hk5⟩
      have hkr5 := hkr.trans hk5 (S := No) (fun i hi h => hVnot i h hi)
      have hkB5 := hk1.transNo hkr5
      have hAl : (otherA t ++ [((k, bs, p) : AE)]).length ≤ 1099511627776 := by simp [otherA]; omega
      have hop := va_open b m v' (otherA t ++ [(k, bs, p)]) [] _ k bs (t + 1) w5 hV5 (by omega) hAl
      rw [show openA (otherA t ++ [((k, bs, p) : AE)]) [] k bs (t + 1) = (p, 0) from by
        unfold openA; rw [if_neg (by simp), if_neg (by omega), Nat.add_sub_cancel, otherA_at]; simp] at hop
      clear hseal
      go_wp2_with fail
      refine hop.mono ?_
      rintro e w6 ⟨a6, n6, c6, rfl, hk6, hs6, hf6, hn6⟩
      have hV6 := hV5.kept hk6
      have hkB6 := hkB5.transNo hk6
      have hop2 := va_open b m v' (otherA t ++ [(k, bs, p)]) [] _ k' bs' (t + 1) w6 hV6 (by omega) hAl
      have hop2A : openA (otherA t ++ [((k, bs, p) : AE)]) [] k' bs' (t + 1) = if k = k' ∧ bs = bs' then (p, 0) else ([], 51) := by
        unfold openA; rw [if_neg (by simp), if_neg (by omega), Nat.add_sub_cancel, otherA_at]
      rw [hop2A] at hop2
      have HopA := Lib.hid hop2A
      have heql := fun wy => key_eql k k' wy
      have hbb0 := bytes_beq bs bs'
      have hbb1 := beq_toListBytes bs bs'
      unfold keyCells at heql
      clear hop hop2A
      by_cases hkk : k = k'
      · simp only [decide_eq_true hkk] at heql
        by_cases hbb : bs = bs'
        · rw [decide_eq_true hbb] at hbb0
          rw [hbb0] at hbb1
          have hbb2 := hbb1.symm
          rw [if_pos ⟨hkk, hbb⟩] at hop2
          clear hbb1
          have HK := Lib.hid hkk
          have HBB := Lib.hid hbb
          clear hkk hbb
          go_wp2_with fail
          refine hop2.mono ?_
          rintro e w7 ⟨a7, n7, c7, rfl, hk7, hs7, hf7, hn7⟩
          have hV7 := hV6.kept hk7
          have hkB7 := hkB6.transNo hk7
          have e6 := strV (hs6.kept hk7)
          have ep := strV (hs.kept (hkAB.transNo hkB7))
          have e7 := strV hs7
          have hop3 := va_open b m v' (otherA t ++ [(k, bs, p)]) [] _ k bs (t + 2) w7 hV7 (by omega) hAl
          rw [show openA (otherA t ++ [((k, bs, p) : AE)]) [] k bs (t + 2) = ([], 51) from by
            unfold openA; rw [if_neg (by simp), if_neg (by omega), show t + 2 - 1 = t + 1 from by omega, otherA_end]] at hop3
          clear hop2
          go_wp2_with fail
          refine hop3.mono ?_
          rintro e w8 ⟨a8, n8, c8, rfl, hk8, hs8, hf8, hn8⟩
          have hV8 := hV7.kept hk8
          have hkB8 := hkB7.transNo hk8
          have hdes := va_destroy b m v' (otherA t ++ [(k, bs, p)]) [] _ k w8 hV8 (by decide)
          rw [show ([] : List K3) ++ [k] = [k] from rfl] at hdes
          have hVnot8 := hV8.not
          clear hop3
          go_wp2_with fail
          refine hdes.mono ?_
          rintro e w9 ⟨rfl, hV9, hk9⟩
          have hkr9 : Keeps No w1 w9 := (hkr5.transNo (hk6.transNo (hk7.transNo hk8))).trans hk9 (fun i hi h => hVnot8 i h hi)
          have hkB9 := hk1.transNo hkr9
          have hop4 := va_open b m v' (otherA t ++ [(k, bs, p)]) [k] _ k bs (t + 1) w9 hV9 (by omega) hAl
          rw [show openA (otherA t ++ [((k, bs, p) : AE)]) [k] k bs (t + 1) = ([], 50) from by unfold openA; rw [if_pos (by simp)]] at hop4
          clear hdes
          go_wp2_with fail
          refine hop4.mono ?_
          rintro e wa ⟨aa2, na2, ca2, rfl, hka, hsa, hfa, hnaa⟩
          have hVa := hV9.kept hka
          have hkra := hkr9.transNo hka
          have hkBa := hkB9.transNo hka
          have hsl2 := va_seal b m v' (otherA t ++ [(k, bs, p)]) [k] _ k bs aa na ca p wa hVa (fun i hi => by have := hkra.size; omega) (hs.kept (hkAB.transNo hkBa)) (by omega) hAl
          rw [show sealA (otherA t ++ [((k, bs, p) : AE)]) [k] k bs p = (otherA t ++ [((k, bs, p) : AE)], 0, 50) from by
            unfold sealA; rw [if_neg (by rintro (h | h); exact HB.out h; (have := Hplen.out; omega)), if_pos (by simp)]] at hsl2
          have hVnota := hVa.not
          clear hop4
          go_wp2_with fail
          refine hsl2.mono ?_
          rintro e wb ⟨rfl, vb, hVb, hob, hkb⟩
          have hkrb := hkra.trans hkb (S := No) (fun i hi h => hVnota i h hi)
          have hkBb := hk1.transNo hkrb
          clear hsl2
          go_wp2_with fail
          refine (vdestroy_nil k wb).mono ?_
          rintro e wc ⟨rfl, hkc⟩
          have hkBc := hkBb.transNo hkc
          go_wp2_with fail
          refine (vseal_nil k ByteArray.empty none 0 0 wc).mono ?_
          rintro e wd ⟨rfl, hkd⟩
          have hkBd := hkBc.transNo hkd
          go_wp2_with fail
          refine (vopen_nil k ByteArray.empty 1 wd).mono ?_
          rintro e we ⟨rfl, hke⟩
          have hkBe := hkBd.transNo hke
          go_wp2_with fail
          refine (vunder_nil 1 we).mono ?_
          rintro e wf ⟨rfl, hkf⟩
          unfold keyCells zeroKey
          go_wp2_with fail
          refine (vsealed_nil _).mono ?_
          rintro e wg ⟨rfl, rfl⟩
          go_wp2_with fail
          go_ret
          exact ⟨rfl, (hkAB.transNo (hkBe.transNo hkf)).alloc _⟩
        · rw [decide_eq_false hbb] at hbb0
          rw [hbb0] at hbb1
          have hbb2 := hbb1.symm
          rw [if_neg (fun h => hbb h.2)] at hop2
          clear hbb1
          have HK := Lib.hid hkk
          have HBB := Lib.hid hbb
          clear hkk hbb
          go_wp2_with fail
          refine hop2.mono ?_
          rintro e w7 ⟨a7, n7, c7, rfl, hk7, hs7, hf7, hn7⟩
          have hV7 := hV6.kept hk7
          have hkB7 := hkB6.transNo hk7
          have e6 := strV (hs6.kept hk7)
          have ep := strV (hs.kept (hkAB.transNo hkB7))
          obtain rfl : n7 = 0 := by have := hs7.len; simpa using this.symm
          have hop3 := va_open b m v' (otherA t ++ [(k, bs, p)]) [] _ k bs (t + 2) w7 hV7 (by omega) hAl
          rw [show openA (otherA t ++ [((k, bs, p) : AE)]) [] k bs (t + 2) = ([], 51) from by
            unfold openA; rw [if_neg (by simp), if_neg (by omega), show t + 2 - 1 = t + 1 from by omega, otherA_end]] at hop3
          clear hop2
          go_wp2_with fail
          refine hop3.mono ?_
          rintro e w8 ⟨a8, n8, c8, rfl, hk8, hs8, hf8, hn8⟩
          have hV8 := hV7.kept hk8
          have hkB8 := hkB7.transNo hk8
          have hdes := va_destroy b m v' (otherA t ++ [(k, bs, p)]) [] _ k w8 hV8 (by decide)
          rw [show ([] : List K3) ++ [k] = [k] from rfl] at hdes
          have hVnot8 := hV8.not
          clear hop3
          go_wp2_with fail
          refine hdes.mono ?_
          rintro e w9 ⟨rfl, hV9, hk9⟩
          have hkr9 : Keeps No w1 w9 := (hkr5.transNo (hk6.transNo (hk7.transNo hk8))).trans hk9 (fun i hi h => hVnot8 i h hi)
          have hkB9 := hk1.transNo hkr9
          have hop4 := va_open b m v' (otherA t ++ [(k, bs, p)]) [k] _ k bs (t + 1) w9 hV9 (by omega) hAl
          rw [show openA (otherA t ++ [((k, bs, p) : AE)]) [k] k bs (t + 1) = ([], 50) from by unfold openA; rw [if_pos (by simp)]] at hop4
          clear hdes
          go_wp2_with fail
          refine hop4.mono ?_
          rintro e wa ⟨aa2, na2, ca2, rfl, hka, hsa, hfa, hnaa⟩
          have hVa := hV9.kept hka
          have hkra := hkr9.transNo hka
          have hkBa := hkB9.transNo hka
          have hsl2 := va_seal b m v' (otherA t ++ [(k, bs, p)]) [k] _ k bs aa na ca p wa hVa (fun i hi => by have := hkra.size; omega) (hs.kept (hkAB.transNo hkBa)) (by omega) hAl
          rw [show sealA (otherA t ++ [((k, bs, p) : AE)]) [k] k bs p = (otherA t ++ [((k, bs, p) : AE)], 0, 50) from by
            unfold sealA; rw [if_neg (by rintro (h | h); exact HB.out h; (have := Hplen.out; omega)), if_pos (by simp)]] at hsl2
          have hVnota := hVa.not
          clear hop4
          go_wp2_with fail
          refine hsl2.mono ?_
          rintro e wb ⟨rfl, vb, hVb, hob, hkb⟩
          have hkrb := hkra.trans hkb (S := No) (fun i hi h => hVnota i h hi)
          have hkBb := hk1.transNo hkrb
          clear hsl2
          go_wp2_with fail
          refine (vdestroy_nil k wb).mono ?_
          rintro e wc ⟨rfl, hkc⟩
          have hkBc := hkBb.transNo hkc
          go_wp2_with fail
          refine (vseal_nil k ByteArray.empty none 0 0 wc).mono ?_
          rintro e wd ⟨rfl, hkd⟩
          have hkBd := hkBc.transNo hkd
          go_wp2_with fail
          refine (vopen_nil k ByteArray.empty 1 wd).mono ?_
          rintro e we ⟨rfl, hke⟩
          have hkBe := hkBd.transNo hke
          go_wp2_with fail
          refine (vunder_nil 1 we).mono ?_
          rintro e wf ⟨rfl, hkf⟩
          unfold keyCells zeroKey
          go_wp2_with fail
          refine (vsealed_nil _).mono ?_
          rintro e wg ⟨rfl, rfl⟩
          go_wp2_with fail
          go_ret
          exact ⟨rfl, (hkAB.transNo (hkBe.transNo hkf)).alloc _⟩
      · simp only [decide_eq_false hkk] at heql
        rw [if_neg (fun h => hkk h.1)] at hop2
        have HK := Lib.hid hkk
        clear hkk hbb0 hbb1
        go_wp2_with fail
        refine hop2.mono ?_
        rintro e w7 ⟨a7, n7, c7, rfl, hk7, hs7, hf7, hn7⟩
        have hV7 := hV6.kept hk7
        have hkB7 := hkB6.transNo hk7
        have e6 := strV (hs6.kept hk7)
        have ep := strV (hs.kept (hkAB.transNo hkB7))
        obtain rfl : n7 = 0 := by have := hs7.len; simpa using this.symm
        have hop3 := va_open b m v' (otherA t ++ [(k, bs, p)]) [] _ k bs (t + 2) w7 hV7 (by omega) hAl
        rw [show openA (otherA t ++ [((k, bs, p) : AE)]) [] k bs (t + 2) = ([], 51) from by
          unfold openA; rw [if_neg (by simp), if_neg (by omega), show t + 2 - 1 = t + 1 from by omega, otherA_end]] at hop3
        clear hop2
        go_wp2_with fail
        refine hop3.mono ?_
        rintro e w8 ⟨a8, n8, c8, rfl, hk8, hs8, hf8, hn8⟩
        have hV8 := hV7.kept hk8
        have hkB8 := hkB7.transNo hk8
        have hdes := va_destroy b m v' (otherA t ++ [(k, bs, p)]) [] _ k w8 hV8 (by decide)
        rw [show ([] : List K3) ++ [k] = [k] from rfl] at hdes
        have hVnot8 := hV8.not
        clear hop3
        go_wp2_with fail
        refine hdes.mono ?_
        rintro e w9 ⟨rfl, hV9, hk9⟩
        have hkr9 : Keeps No w1 w9 := (hkr5.transNo (hk6.transNo (hk7.transNo hk8))).trans hk9 (fun i hi h => hVnot8 i h hi)
        have hkB9 := hk1.transNo hkr9
        have hop4 := va_open b m v' (otherA t ++ [(k, bs, p)]) [k] _ k bs (t + 1) w9 hV9 (by omega) hAl
        rw [show openA (otherA t ++ [((k, bs, p) : AE)]) [k] k bs (t + 1) = ([], 50) from by unfold openA; rw [if_pos (by simp)]] at hop4
        clear hdes
        go_wp2_with fail
        refine hop4.mono ?_
        rintro e wa ⟨aa2, na2, ca2, rfl, hka, hsa, hfa, hnaa⟩
        have hVa := hV9.kept hka
        have hkra := hkr9.transNo hka
        have hkBa := hkB9.transNo hka
        have hsl2 := va_seal b m v' (otherA t ++ [(k, bs, p)]) [k] _ k bs aa na ca p wa hVa (fun i hi => by have := hkra.size; omega) (hs.kept (hkAB.transNo hkBa)) (by omega) hAl
        rw [show sealA (otherA t ++ [((k, bs, p) : AE)]) [k] k bs p = (otherA t ++ [((k, bs, p) : AE)], 0, 50) from by
          unfold sealA; rw [if_neg (by rintro (h | h); exact HB.out h; (have := Hplen.out; omega)), if_pos (by simp)]] at hsl2
        have hVnota := hVa.not
        clear hop4
        go_wp2_with fail
        refine hsl2.mono ?_
        rintro e wb ⟨rfl, vb, hVb, hob, hkb⟩
        have hkrb := hkra.trans hkb (S := No) (fun i hi h => hVnota i h hi)
        have hkBb := hk1.transNo hkrb
        clear hsl2
        go_wp2_with fail
        refine (vdestroy_nil k wb).mono ?_
        rintro e wc ⟨rfl, hkc⟩
        have hkBc := hkBb.transNo hkc
        go_wp2_with fail
        refine (vseal_nil k ByteArray.empty none 0 0 wc).mono ?_
        rintro e wd ⟨rfl, hkd⟩
        have hkBd := hkBc.transNo hkd
        go_wp2_with fail
        refine (vopen_nil k ByteArray.empty 1 wd).mono ?_
        rintro e we ⟨rfl, hke⟩
        have hkBe := hkBd.transNo hke
        go_wp2_with fail
        refine (vunder_nil 1 we).mono ?_
        rintro e wf ⟨rfl, hkf⟩
        unfold keyCells zeroKey
        go_wp2_with fail
        refine (vsealed_nil _).mono ?_
        rintro e wg ⟨rfl, rfl⟩
        go_wp2_with fail
        go_ret
        exact ⟨rfl, (hkAB.transNo (hkBe.transNo hkf)).alloc _⟩
end Go.Proofs.Ytpceigiofbeihaa
