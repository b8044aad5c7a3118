/- The walk of the law SpaceTakes. -/
import Derived.Test.YtpceigiofbeihaaLawSixF
import Derived.Test.YtpceigiofbeihaaRowKit
namespace Go.Proofs.Ytpceigiofbeihaa
open Go.RowKit
set_option linter.unusedSimpArgs false
set_option linter.unusedVariables false

/-- Which of the sixty are seen. -/
def seenT (r j : Nat) : List Bool := (List.range 60).map fun i => decide (r ≤ i ∧ i < j)
theorem seenT_start (r : Nat) : seenT r r = List.replicate 60 false := by
  unfold seenT
  rw [List.eq_replicate_iff]
  refine ⟨by simp, fun b hb => ?_⟩
  obtain ⟨i, _, rfl⟩ := List.mem_map.1 hb
  simp
theorem seenT_set (r j : Nat) (h : r ≤ j) (hj : j < 60) : (seenT r j).set j true = seenT r (j + 1) := by
  unfold seenT
  apply List.ext_getElem
  · simp
  · intro i h1 h2
    rw [List.getElem_set]
    split
    · subst i; simp [h]
    · simp only [List.getElem_map, List.getElem_range]
      exact decide_eq_decide.2 (by omega)

set_option maxRecDepth 100000 in
set_option maxHeartbeats 4000000 in
theorem spaceTakes_any (x y : Int) (a : Option Addr) (m c : Nat) (B : List I64) (w : World) (hx : (Lit.int .u8 x).wf = true) (hy : (Lit.int .u8 y).wf = true) (hs : Sl w a m c (B.map i64V)) (hm : m * 8 ≤ 140737488351232) :
    Calls Try.prog 5 #[.int .u8 x, .int .u8 y, .slice a m c] w fun e w' => e = .returned (.bool true) ∧ Keeps No w w' := by
  have hlen : B.length = m := by simpa using hs.len
  have Hlen := Lib.hid hlen
  clear hlen
  have hx' := wf_u8_nat hx
  have hy' := wf_u8_nat hy
  obtain ⟨xn, rfl, hxn⟩ : ∃ k : Nat, x = k ∧ k < 256 := by obtain ⟨k, h1, h2⟩ := hx'; exact ⟨k, h1, h2⟩
  obtain ⟨yn, rfl, hyn⟩ : ∃ k : Nat, y = k ∧ k < 256 := by obtain ⟨k, h1, h2⟩ := hy'; exact ⟨k, h1, h2⟩
  clear hx hy hx' hy'
  obtain ⟨n, hn⟩ : ∃ n : Nat, n = 1 + xn % 60 := ⟨_, rfl⟩
  obtain ⟨r, hr⟩ : ∃ r : Nat, r = yn % (n + 1) := ⟨_, rfl⟩
  have hn1 : 1 ≤ n := by omega
  have hn2 : n ≤ 60 := by omega
  have hr1 : r ≤ n := by have := Nat.mod_lt yn (show 0 < n + 1 by omega); omega
  have e1 : (1 : Int) + (xn : Int) % 60 = (n : Int) := by omega
  have e2 : ((yn : Int).tmod ((n : Int) + 1)) = (r : Int) := by rw [Int.tmod_eq_emod_of_nonneg (by omega)]; rw [hr]; push_cast; rfl
  have e2' : ((yn : Int) % ((n : Int) + 1)) = (r : Int) := by rw [hr]; push_cast; rfl
  clear hn hr
  go_enter Try.func5, Try.ntmps5
  go_wp2_with fail
  refine (first06_any _).mono ?_
  rintro e w1 ⟨rfl, hk1⟩
  go_wp2_with fail
  refine (new_ok n r _ hn1 (by omega) hr1).mono ?_
  rintro e w2 ⟨b, tb, rfl, hS2, hb, htb, hb2, htb2, hk2⟩
  go_wp2_with fail
  have hnew := heap_alloc_new w2 (.cells (List.replicate 60 (Value.bool false)).toArray 44)
  go_loopw [12, 13, 14] (fun i _ _ wr => ∃ j : Nat, r ≤ j ∧ j ≤ n ∧ i = .int .i64 j ∧ SM wr b tb (newT n j) r ∧ wr.heap[w2.heap.size]? = some (.cells ((seenT r j).map Value.bool).toArray 44 (0, 0)) ∧ Keeps No w wr)
    (fun i _ _ _ => n - (intOf i).toNat)
  case atStart =>
    refine ⟨r, Nat.le_refl _, hr1, rfl, hS2.kept ((Keeps.refl No w2).alloc _), ?_, (hk1.transNo hk2).alloc _⟩
    rw [seenT_start, List.map_replicate]
    exact hnew
  case round =>
    obtain ⟨j, hrj, hj, rfl, hS, hsn, hkr⟩ := hrel
    clear hnew
    by_cases hlt : j < n
    · have e3 : (j : Int) % 60 = (j : Int) := by omega
      have hsl : (seenT r j).length = 60 := by simp [seenT]
      have hjs : (seenT r j)[j]? = some false := by simp [seenT, show j < 60 by omega]
      have hcj : wr.cell? ⟨w2.heap.size, j, none⟩ = some (.bool false) := by rw [cell_of_row wr _ j _ _ (0, 0) hsn]; simp [hjs]
      have hfj := frozen_of_row wr w2.heap.size j _ _ hsn
      have hf := newT_find n j hlt
      have hl := newT_length n j (by omega)
      have htake := take_some b tb (newT n j) r wr hS (by rw [hf, hl]; exact hlt)
      rw [hf, newT_set n j hlt] at htake
      clear hf hl hjs hsl
      go_wp2_with fail
      refine htake.mono ?_
      rintro e w5 ⟨rfl, hS5, hk5⟩
      have htb' : w2.heap.size ≠ tb := by omega
      have hc5 := hk5.cell hcj htb'
      have hsn5 := hk5.blk hsn htb'
      have hf5 := frozen_of_row w5 w2.heap.size j _ _ hsn5
      clear hcj hfj
      go_wp2_with fail
      go_roundw
      case rel =>
        refine ⟨j + 1, by omega, by omega, by go_num, hS5.keep (Keeps.set w5 w2.heap.size j _) (by omega) (by omega), ?_, ?_⟩
        · have := heap_setCell_same w5 w2.heap.size j _ _ (.bool true) hsn5
          rw [this, ← seenT_set r j hrj (by omega)]
          simp [List.map_set]
        · have z1 := hk1.size
          have z2 := hk2.size
          exact (hkr.trans hk5 (fun k hk h => by omega)).setCell (fun h => by simp at h; omega) _
      case measure => simp [intOf]; omega
    · obtain rfl : n = j := by omega
      have hS0 : SM wr b tb (newT n n) r := hS
      have hc0 : (newT n n).count false = 0 := by rw [newT_count]; omega
      obtain ⟨T0, hT0⟩ : ∃ T0, newT n n = T0 := ⟨_, rfl⟩
      rw [hT0] at hS0 hc0
      obtain ⟨w4, hw4⟩ : ∃ w4, w4 = wr := ⟨_, rfl⟩
      subst hw4
      clear hT0 hsn hS
      have z1 := hk1.size
      have z2 := hk2.size
      go_wp2_with fail
      go_loopw [15, 16, 17, 68] (fun t _ _ i wr => ∃ (j g : Nat) (T : List Bool), j ≤ m ∧ g ≤ j ∧ t = .int .i64 g ∧ i = .int .i64 j ∧ SM wr b tb T r ∧ T.count false = g ∧ Keeps No w wr)
        (fun _ _ _ i _ => m - (intOf i).toNat)
      case atStart => exact ⟨0, 0, T0, Nat.zero_le _, Nat.zero_le _, rfl, rfl, hS0, hc0, hkr⟩
      case round =>
        clear hS0 hc0 hkr
        obtain ⟨j, g, T, hj, hg, rfl, rfl, hS, hcnt, hkr⟩ := hrel
        have Hcnt := Lib.hid hcnt
        clear hcnt
        by_cases hlt : j < m
        · have hjB : j < B.length := by rw [Hlen.out]; exact hlt
          have hix := hs.ix (P := Try.prog) Try.underlying40 (by kernel_rfl) hlt .i64
          have hc := (hs.kept hkr).at_ hlt
          obtain ⟨v, hv⟩ : ∃ v, v = B[j] := ⟨_, rfl⟩
          have hb0 : (B.map i64V).getD j undef = .int .i64 v.1 := by rw [hv]; simp [hjB, i64V]
          rw [hb0] at hc
          clear hb0 hv
          by_cases h100 : j < 100
          · by_cases hyes : ∃ k : Nat, v.1 = k ∧ r ≤ k ∧ T[k]? = some true
            · obtain ⟨k, hvk, hrk, hTk⟩ := hyes
              have hcs := count_set' T k true hTk
              have hgive := give_yes b tb T r wr hS k hrk hTk
              rw [← hvk] at hgive
              have Hcs := Lib.hid hcs
              clear hcs hvk hTk
              go_wp2_with fail
              refine hgive.mono ?_
              rintro e w5 ⟨rfl, hS5, hk5⟩
              go_wp2_with fail
              go_roundw
              case rel => exact ⟨j + 1, g + 1, _, by omega, by omega, by go_num, by go_num, hS5, by rw [← Hcnt.out]; exact Hcs.out, hkr.trans hk5 (fun k hk h => by omega)⟩
              case measure => simp [intOf]; omega
            · have hno : v.1 < r ∨ (T.length : Int) ≤ v.1 ∨ ∃ k : Nat, v.1 = k ∧ T[k]? = some false := by
                by_cases h1 : v.1 < r
                · exact .inl h1
                by_cases h2 : (T.length : Int) ≤ v.1
                · exact .inr (.inl h2)
                obtain ⟨k, hk⟩ := Int.eq_ofNat_of_zero_le (show 0 ≤ v.1 from by omega)
                refine .inr (.inr ⟨k, hk, ?_⟩)
                have hkT : k < T.length := by omega
                rw [List.getElem?_eq_getElem hkT]
                cases hb : T[k] with
                | false => rfl
                | true => exact absurd ⟨k, hk, by omega, by rw [List.getElem?_eq_getElem hkT, hb]⟩ hyes
              have hgive := give_no b tb T r wr hS v.1 hno
              clear hno hyes
              go_wp2_with fail
              refine hgive.mono ?_
              rintro e w5 ⟨rfl, rfl⟩
              go_wp2_with fail
              go_roundw
              case rel => exact ⟨j + 1, g, _, by omega, by omega, rfl, by go_num, hS, Hcnt.out, hkr⟩
              case measure => simp [intOf]; omega
          · go_wp2_with fail
            go_roundw
            case rel => exact ⟨j + 1, g, _, by omega, by omega, rfl, by go_num, hS, Hcnt.out, hkr⟩
            case measure => simp [intOf]; omega
        · obtain rfl : m = j := by omega
          go_wp2_with fail
          go_loopw [18, 19, 84] (fun _ _ i wr => ∃ (j : Nat) (T : List Bool), j ≤ g ∧ i = .int .i64 j ∧ SM wr b tb T r ∧ T.count false + j = g ∧ Keeps No w wr)
            (fun _ _ i _ => g - (intOf i).toNat)
          case atStart => exact ⟨0, T, Nat.zero_le _, rfl, hS, Hcnt.out, hkr⟩
          case round =>
            clear hS hkr Hcnt
            obtain ⟨j, T, hj, rfl, hS, hcnt, hkr⟩ := hrel
            by_cases hlt : j < g
            · have hfl : T.findIdx (· == false) < T.length := (find_lt T).2 (by omega)
              have htake := take_some b tb T r wr hS hfl
              have hcs := count_set T _ _ (find_at T hfl)
              obtain ⟨f, hf⟩ : ∃ f, T.findIdx (· == false) = f := ⟨_, rfl⟩
              rw [hf] at htake hcs
              have Hcs := Lib.hid hcs
              have Hcnt := Lib.hid hcnt
              clear hf hfl hcs hcnt
              go_wp2_with fail
              refine htake.mono ?_
              rintro e w5 ⟨rfl, hS5, hk5⟩
              go_wp2_with fail
              go_roundw
              case rel => exact ⟨j + 1, _, by omega, by go_num, hS5, by have h1 := Hcs.out; have h2 := Hcnt.out; simp only [Bool.not_false] at h1; omega, hkr.trans hk5 (fun k hk h => by omega)⟩
              case measure => simp [intOf]; omega
            · obtain rfl : g = j := by omega
              have hz : T.count false = 0 := by omega
              have htake := take_none b tb T r wr hS (fun h => by have := (find_lt T).1 h; omega)
              have hfree := free_any b tb T r wr hS
              rw [hz] at hfree
              clear hz hcnt
              go_wp2_with fail
              refine htake.mono ?_
              rintro e w5 ⟨rfl, rfl⟩
              go_wp2_with fail
              refine hfree.mono ?_
              rintro e w5 ⟨rfl, rfl⟩
              go_wp2_with fail
              go_ret
              exact ⟨rfl, hkr⟩

end Go.Proofs.Ytpceigiofbeihaa
