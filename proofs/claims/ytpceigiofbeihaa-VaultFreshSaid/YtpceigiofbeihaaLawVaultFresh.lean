/- The walk of the law VaultFresh. -/
import Derived.Test.YtpceigiofbeihaaLawFiveF
namespace Go.Proofs.Ytpceigiofbeihaa
open Go.RowKit
set_option linter.unusedSimpArgs false
set_option linter.unusedVariables false

attribute [local go_sem high] run_min_ints3
theorem strOne (w : World) (n g : Nat) (hn : n < 256) (hg : w.heap.size = g) : (convert 28 9 (.slice (some ⟨g, 0, none⟩) 1 1)).run Try.prog (w.alloc (.cells #[.int .u8 (n : Int)] 5)) = .ok (.string ⟨#[UInt8.ofNat n]⟩) (w.alloc (.cells #[.int .u8 (n : Int)] 5)) := by
  subst hg
  have hb : byteV (UInt8.ofNat n) = .int .u8 (n : Int) := by unfold byteV; rw [UInt8.toNat_ofNat']; congr 1; omega
  have := Sl.lit w #[.int .u8 (n : Int)] 5 (([UInt8.ofNat n] : List UInt8).map byteV) (by rw [List.map_cons, hb]; rfl) 1 rfl (by decide)
  exact strV this

/-- A slice of bytes that came in. -/
abbrev BS := Option Addr × Nat × Nat × List UInt8
def BS.cells (x : BS) : List Value := [.slice x.1 x.2.1 x.2.2.1]
def freshA (P : List BS) (k : K3) (j : Nat) : List AE := (List.range j).map fun i => (k, (⟨#[UInt8.ofNat i]⟩ : ByteArray), (P.getD i (none, 0, 0, [])).2.2.2)
theorem freshA_length (P : List BS) (k : K3) (j : Nat) : (freshA P k j).length = j := by simp [freshA]
theorem freshA_succ (P : List BS) (k : K3) (j : Nat) (h : j < P.length) : freshA P k (j + 1) = freshA P k j ++ [(k, ⟨#[UInt8.ofNat j]⟩, (P[j]).2.2.2)] := by
  unfold freshA
  rw [List.range_succ, List.map_append]
  simp [h]
theorem freshA_at (P : List BS) (k : K3) (n i : Nat) (h : i < n) (hP : i < P.length) : (freshA P k n)[i]? = some (k, ⟨#[UInt8.ofNat i]⟩, (P[i]).2.2.2) := by
  unfold freshA
  simp [h, hP]
theorem byte_inj {i j : Nat} (hi : i < 256) (hj : j < 256) (h : (⟨#[UInt8.ofNat i]⟩ : ByteArray) = ⟨#[UInt8.ofNat j]⟩) : i = j := by
  have h1 : UInt8.ofNat i = UInt8.ofNat j := by injection h with h; simpa using h
  have := congrArg UInt8.toNat h1
  rw [UInt8.toNat_ofNat', UInt8.toNat_ofNat'] at this
  omega

set_option maxRecDepth 100000 in
set_option maxHeartbeats 4000000 in
theorem vaultFresh_any (a : Option Addr) (n c : Nat) (P : List BS) (k : K3) (w : World) (hs : SlK w 1 a n c (P.map BS.cells)) (hP : ∀ x ∈ P, Sl w x.1 x.2.1 x.2.2.1 (x.2.2.2.map byteV)) :
    Calls Try.prog 3 #[.slice a n c, .agg (keyCells k).toArray] w fun e w' => e = .returned (.bool true) ∧ Keeps No w w' := by
  have hlen : P.length = n := by simpa using hs.len
  have Hlen := Lib.hid hlen
  clear hlen
  have hm := hs.max
  have hle := hs.le
  unfold maxLen at hm
  have hkBox : Keeps No w (w.alloc (.cells (keyCells k).toArray 24)) := (Keeps.refl No w).alloc _
  have hbBox := heap_alloc_new w (.cells (keyCells k).toArray 24)
  have hbadiff : badKey k ↔ min k.1.1 (min k.2.1.1 k.2.2.1) < 0 := by unfold badKey; omega
  have Hbad := Lib.hid hbadiff
  clear hbadiff
  unfold keyCells at hkBox hbBox ⊢
  go_enter Try.func3, Try.ntmps3
  go_wp2_with fail
  refine (first05_any _).mono ?_
  rintro e w1 ⟨rfl, hk1⟩
  have hbBox1 := hk1.blk hbBox (not_No _)
  have b0 := cell_of_row w1 _ 0 _ _ (0, 0) hbBox1
  have b1 := cell_of_row w1 _ 1 _ _ (0, 0) hbBox1
  have b2 := cell_of_row w1 _ 2 _ _ (0, 0) hbBox1
  have hk01 := hkBox.transNo hk1
  by_cases h40 : 40 < n
  · go_wp2_with fail
    go_ret
    exact ⟨rfl, hk01⟩
  by_cases hbk : badKey k
  · have hb1 : decide (min k.1.1 (min k.2.1.1 k.2.2.1) < 0) = true := decide_eq_true (Hbad.out.1 hbk)
    have hb40 : decide (40 < (n : Int)) = false := by simp; omega
    clear hbk
    go_wp2_with fail
    go_ret
    exact ⟨rfl, hk01⟩
  have hb1 : decide (min k.1.1 (min k.2.1.1 k.2.2.1) < 0) = false := decide_eq_false (fun h => hbk (Hbad.out.2 h))
  have hb40 : decide (40 < (n : Int)) = false := by simp; omega
  have HB := Lib.hid hbk
  clear hbk
  go_wp2_with fail
  refine (va_new w1).mono ?_
  rintro e w2 ⟨b, m, rfl, hV2, hk2⟩
  have hz1 := hk01.size
  have hzB : w.heap.size < w1.heap.size := by have := hk1.size; simp at this; omega
  clear hb1 hb40 b0 b1 b2
  go_wp2_with fail
  go_loopg [6, 7, 8, 9, 33] n (fun q _ _ _ _ i wr => ∃ (j : Nat) (v : Value), j ≤ n ∧ q = n - j ∧ i = .int .i64 j ∧ VA wr b m v (freshA P k j) [] (fun i => i < w1.heap.size) ∧ Keeps No w1 wr)
  case atStart => exact ⟨0, _, Nat.zero_le _, rfl, rfl, hV2, hk2⟩
  case round =>
    clear hV2
    obtain ⟨j, v, hj, hq, rfl, hV, hkr⟩ := hrel
    have Hq := Lib.hid hq
    clear hq
    by_cases hlt : j < n
    · have hjP : j < P.length := by rw [Hlen.out]; exact hlt
      have hkW := hk01.transNo hkr
      have hsr := hs.kept hkW
      have hix := hsr.ix (P := Try.prog) Try.underlying22 (by kernel_rfl) hlt .i64
      have hcell := hsr.at_ (j := 0) hlt (by decide)
      obtain ⟨x, hx⟩ : ∃ x, x = P[j] := ⟨_, rfl⟩
      have hxc : ((P.map BS.cells).getD j []).getD 0 undef = .slice x.1 x.2.1 x.2.2.1 := by rw [hx]; simp [hjP, BS.cells]
      rw [hxc, Nat.add_zero, Nat.mul_one] at hcell
      rw [Nat.mul_one] at hix
      have hsx := (hP x (by rw [hx]; exact List.getElem_mem hjP)).kept hkW
      have hsuc := freshA_succ P k j hjP
      rw [← hx] at hsuc
      have Hsuc := Lib.hid hsuc
      clear hx hxc hsr hsuc
      have hxm := hsx.max
      have hxl := hsx.le
      unfold maxLen at hxm
      by_cases h500 : 500 < x.2.1
      · go_wp2_with fail
        go_ret
        exact ⟨rfl, hkW⟩
      have hbBoxr := hkr.blk hbBox1 (not_No _)
      have b0 := cell_of_row wr _ 0 _ _ (0, 0) hbBoxr
      have b1 := cell_of_row wr _ 1 _ _ (0, 0) hbBoxr
      have b2 := cell_of_row wr _ 2 _ _ (0, 0) hbBoxr
      have hkB : Keeps No wr (wr.alloc (.cells #[.int .u8 (j : Int)] 5)) := (Keeps.refl No wr).alloc _
      have hzr := hkr.size
      have hseal := va_seal b m v (freshA P k j) [] _ k ⟨#[UInt8.ofNat j]⟩ _ x.2.1 x.2.2.1 x.2.2.2 _ (hV.kept hkB) (fun i hi => by have := hkB.size; omega) (hsx.kept hkB) (by omega) (by rw [freshA_length]; omega)
      have hx5 : x.2.2.2.length = x.2.1 := by simpa using hsx.len
      rw [show sealA (freshA P k j) [] k ⟨#[UInt8.ofNat j]⟩ x.2.2.2 = (freshA P k (j + 1), j + 1, 0) from by
        unfold sealA; rw [if_neg (by rintro (h | h); exact HB.out h; omega), if_neg (by simp), freshA_length, Hsuc.out]] at hseal
      have hVnot := hV.not
      clear hx5
      have kone := fun (wx : World) (g : Nat) (hg : wx.heap.size = g) => strOne wx j g (by omega) hg
      go_wp2_with fail
      refine hseal.mono ?_
      rintro e w5 ⟨rfl, v', hV5, ho5, hk5⟩
      have hkr5 := (hkr.transNo hkB).trans hk5 (S := No) (fun i hi h => hVnot i h hi)
      clear hseal kone
      go_wp2_with fail
      go_roundg (n - (j + 1))
      case measure => have := Hq.out; omega
      case rel => exact ⟨j + 1, v', by omega, rfl, by go_num, hV5, hkr5⟩
    · obtain rfl : n = j := by omega
      have hz3 := hkr.size
      obtain ⟨wo, hwo⟩ : ∃ wo : World, wo = wr := ⟨_, rfl⟩
      subst hwo
      have hbBoxo := hkr.blk hbBox1 (not_No _)
      clear Hq
      go_wp2_with fail
      go_loopg [10, 11, 12, 13, 14, 64] n (fun q _ _ _ _ _ i wr => ∃ (j : Nat), j ≤ n ∧ q = n - j ∧ i = .int .i64 j ∧ Keeps No wo wr)
      case atStart => exact ⟨0, Nat.zero_le _, rfl, rfl, Keeps.refl _ _⟩
      case round =>
        obtain ⟨j, hj, hq, rfl, hkx⟩ := hrel
        have Hq := Lib.hid hq
        clear hq
        by_cases hlt : j < n
        · have hjP : j < P.length := by rw [Hlen.out]; exact hlt
          have hkW := (hk01.transNo hkr).transNo hkx
          have hsr := hs.kept hkW
          have hix := hsr.ix (P := Try.prog) Try.underlying22 (by kernel_rfl) hlt .i64
          have hcell := hsr.at_ (j := 0) hlt (by decide)
          obtain ⟨x, hx⟩ : ∃ x, x = P[j] := ⟨_, rfl⟩
          have hxc : ((P.map BS.cells).getD j []).getD 0 undef = .slice x.1 x.2.1 x.2.2.1 := by rw [hx]; simp [hjP, BS.cells]
          rw [hxc, Nat.add_zero, Nat.mul_one] at hcell
          rw [Nat.mul_one] at hix
          have hsx := (hP x (by rw [hx]; exact List.getElem_mem hjP)).kept hkW
          have hxm := hsx.max
          have hxl := hsx.le
          unfold maxLen at hxm
          have Hx := Lib.hid hx
          clear hx hxc hsr
          obtain ⟨wp, hwp⟩ : ∃ wp : World, wp = wr := ⟨_, rfl⟩
          subst hwp
          go_wp2_with fail
          go_loopg [12, 13, 14, 71] n (fun q _ _ _ i wr => ∃ (l : Nat), l ≤ n ∧ q = n - l ∧ i = .int .i64 l ∧ Keeps No wp wr)
          case atStart => exact ⟨0, Nat.zero_le _, rfl, rfl, Keeps.refl _ _⟩
          case round =>
            obtain ⟨l, hl, hq2, rfl, hky⟩ := hrel
            have Hq2 := Lib.hid hq2
            clear hq2
            by_cases hlt2 : l < n
            · have hkz := hkx.transNo hky
              have hVr := hV.kept hkz
              have hbBoxr := hkz.blk hbBoxo (not_No _)
              have b0 := cell_of_row wr _ 0 _ _ (0, 0) hbBoxr
              have b1 := cell_of_row wr _ 1 _ _ (0, 0) hbBoxr
              have b2 := cell_of_row wr _ 2 _ _ (0, 0) hbBoxr
              have hkB : Keeps No wr (wr.alloc (.cells #[.int .u8 (l : Int)] 5)) := (Keeps.refl No wr).alloc _
              have hop := va_open b m v (freshA P k n) [] _ k ⟨#[UInt8.ofNat l]⟩ (j + 1) _ (hVr.kept hkB) (by omega) (by rw [freshA_length]; omega)
              have hat := freshA_at P k n j hlt hjP
              rw [← Hx.out] at hat
              have kone := fun (wx : World) (g : Nat) (hg : wx.heap.size = g) => strOne wx l g (by omega) hg
              by_cases hjl : j = l
              · rw [show openA (freshA P k n) [] k ⟨#[UInt8.ofNat l]⟩ (j + 1) = (x.2.2.2, 0) from by
                  unfold openA
                  rw [if_neg (by simp), if_neg (by omega), Nat.add_sub_cancel, hat, ← hjl]
                  simp] at hop
                subst hjl
                clear hat
                go_wp2_with fail
                refine hop.mono ?_
                rintro e w7 ⟨a7, n7, c7, rfl, hk7, hs7, hf7, hn7⟩
                have e7 := strV hs7
                have e8 := strV ((hsx.kept (hky.transNo hkB)).kept hk7)
                clear hop kone
                go_wp2_with fail
                go_roundg (n - (j + 1))
                case measure => have := Hq2.out; omega
                case rel => exact ⟨j + 1, by omega, rfl, by go_num, (hky.transNo hkB).transNo hk7⟩
              · rw [show openA (freshA P k n) [] k ⟨#[UInt8.ofNat l]⟩ (j + 1) = ([], 51) from by
                  unfold openA
                  rw [if_neg (by simp), if_neg (by omega), Nat.add_sub_cancel, hat]
                  simp only
                  rw [if_neg (fun h => hjl (byte_inj (by omega) (by omega) h.2))]] at hop
                clear hat
                have q1 : ((j : Int) == l) = false := by rw [beq_eq_false_iff_ne]; omega
                have q2 : ((j : Int) != l) = true := by rw [bne_iff_ne]; omega
                go_wp2_with fail
                refine hop.mono ?_
                rintro e w7 ⟨a7, n7, c7, rfl, hk7, hs7, hf7, hn7⟩
                obtain rfl : n7 = 0 := by have := hs7.len; simpa using this.symm
                clear hop kone
                go_wp2_with fail
                go_roundg (n - (l + 1))
                case measure => have := Hq2.out; omega
                case rel => exact ⟨l + 1, by omega, rfl, by go_num, (hky.transNo hkB).transNo hk7⟩
            · obtain rfl : n = l := by omega
              go_wp2_with fail
              go_roundg (n - (j + 1))
              case measure => have := Hq.out; omega
              case rel => exact ⟨j + 1, by omega, rfl, by go_num, hkx.transNo hky⟩
        · obtain rfl : n = j := by omega
          have hse := va_sealed b m v _ _ _ wr (hV.kept hkx)
          rw [freshA_length] at hse
          clear Hq
          go_wp2_with fail
          refine hse.mono ?_
          rintro e w8 ⟨rfl, rfl⟩
          go_wp2_with fail
          go_ret
          exact ⟨rfl, (hk01.transNo hkr).transNo hkx⟩
end Go.Proofs.Ytpceigiofbeihaa
