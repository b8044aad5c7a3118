/- The walk of the law VaultGone. -/
import Derived.Test.YtpceigiofbeihaaLawFiveF
namespace Go.Proofs.Ytpceigiofbeihaa
open Go.RowKit
set_option linter.unusedSimpArgs false
set_option linter.unusedVariables false

theorem key_info : (Try.prog.info? 24).map (fun i => (i.zero, i.size, i.bytes)) = some (some (.agg #[.int .i64 0, .int .i64 0, .int .i64 0]), 3, 24) := by kernel_rfl
theorem keyCells_len (k : K3) : (keyCells k).length = 3 := rfl
theorem keyCells_one (k : K3) : ∀ u ∈ [keyCells k].flatten, u.oneCell' = true := by
  intro u hu; simp [keyCells] at hu; rcases hu with rfl | rfl | rfl <;> rfl
theorem keys_wide (l : List K3) : ∀ x ∈ l.map keyCells, x.length = 3 := by
  intro x hx; obtain ⟨k, _, rfl⟩ := List.mem_map.1 hx; rfl

def keysOf (A : List AE) : List (List Value) := (A.map (·.1)).map keyCells
theorem keysOf_wide (A : List AE) : ∀ x ∈ keysOf A, x.length = 3 := keys_wide _
theorem keysOf_snoc (A : List AE) (e : AE) : (keysOf (A ++ [e])).flatten = (keysOf A).flatten ++ [keyCells e.1].flatten := by simp [keysOf]
theorem keysOf_at (A : List AE) (j : Nat) (h : j < A.length) : (keysOf A).getD j [] = keyCells (A[j]).1 := by simp [keysOf, h]
def AllB (A : List AE) : Prop := ∀ e ∈ A, e.2.1 = ⟨#[98]⟩ ∧ e.2.2 = [120]

set_option maxRecDepth 100000 in
set_option maxHeartbeats 4000000 in
theorem vaultGone_any (a : Option Addr) (n c : Nat) (Ks : List K3) (gone : K3) (w : World) (hs : SlK w 3 a n c (Ks.map keyCells)) :
    Calls Try.prog 4 #[.slice a n c, .agg (keyCells gone).toArray] w fun e w' => e = .returned (.bool true) ∧ Keeps No w w' := by
  have hlen : Ks.length = n := by simpa using hs.len
  have Hlen := Lib.hid hlen
  clear hlen
  have hm := hs.max
  have hle := hs.le
  unfold maxLen at hm
  have kc := convK
  have hkBox : Keeps No w (w.alloc (.cells (keyCells gone).toArray 24)) := (Keeps.refl No w).alloc _
  have hbBox := heap_alloc_new w (.cells (keyCells gone).toArray 24)
  unfold keyCells at hkBox hbBox ⊢
  go_enter Try.func4, Try.ntmps4
  go_wp2_with fail
  refine (first05_any _).mono ?_
  rintro e w1 ⟨rfl, hk1⟩
  by_cases h40 : 40 < n
  · go_wp2_with fail
    go_ret
    exact ⟨rfl, hkBox.transNo hk1⟩
  go_wp2_with fail
  refine (va_new w1).mono ?_
  rintro e w2 ⟨b, m, rfl, hV2, hk2⟩
  have hk01 := hkBox.transNo hk1
  have hz1 := hk01.size
  have hk02 := hk01.transNo hk2
  have hbBox2 := (hk1.transNo hk2).blk hbBox (not_No _)
  have hzB : w.heap.size < w1.heap.size := by have := hk1.size; simp at this; omega
  clear hkBox hbBox
  go_wp2_with fail
  go_loopg [6, 8, 9, 10, 25] n (fun q s6 _ _ _ i wr => ∃ (j : Nat) (v : Value) (A : List AE) (vs : Value), vs = s6 ∧ j ≤ n ∧ q = n - j ∧ i = .int .i64 j ∧ A.length ≤ j ∧ AllB A ∧
      VA wr b m v A [] (fun i => i < w1.heap.size ∨ vs.ownBlock = some i) ∧ wr.ownsRow w1.heap.size 24 3 vs A.length (keysOf A).flatten ∧ Keeps No w1 wr)
  case atStart => exact ⟨0, _, [], _, rfl, Nat.zero_le _, rfl, rfl, Nat.zero_le _, (fun e he => by simp at he), hV2.more (fun i _ h => by rcases h with h | h; exact h; simp [Value.ownBlock] at h), World.ownsRow_nil _ _ _ _, hk2⟩
  case round =>
    clear hV2
    obtain ⟨j, v, A, vs, rfl, hj, hq, rfl, hAj, hAB, hV, hown, hkr⟩ := hrel
    have Hq := Lib.hid hq
    have HAB := Lib.hid hAB
    clear hq hAB
    by_cases hlt : j < n
    · have hjK : j < Ks.length := by rw [Hlen.out]; exact hlt
      have hsr := hs.kept (hk01.transNo hkr)
      have hix := hsr.ix (P := Try.prog) Try.underlying37 (by kernel_rfl) hlt .i64
      obtain ⟨hld, _⟩ := hsr.load (P := Try.prog) (ty := 24) Try.underlying24 rfl (by kernel_rfl) hlt
      obtain ⟨x, hx⟩ : ∃ x, x = Ks[j] := ⟨_, rfl⟩
      have hxc : (Ks.map keyCells).getD j [] = keyCells x := by rw [hx]; simp [hjK]
      rw [hxc] at hld
      clear hx hxc hsr
      have hkB : Keeps No wr ((wr.alloc (.cells #[.int .i64 x.1.1, .int .i64 x.2.1.1, .int .i64 x.2.2.1] 24)).alloc (.cells #[.int .u8 120] 5 (1, 2))) := ((Keeps.refl No wr).alloc _).alloc _
      have hzr := hkr.size
      have hownlt := fun i hi => (hown.lt i hi)
      have hseal := va_seal b m v A [] _ x ⟨#[98]⟩ _ 1 1 [120] _ (hV.kept hkB) (fun i hi => by rcases hi with h | h; (have := hkB.size; omega); (have := (hownlt i h).2; have := hkB.size; omega)) (slX wr _) (by omega) (by omega)
      have hVlt := hV.lt
      have hVnot := hV.not
      have hbX := heap_alloc_new wr (.cells #[.int .i64 x.1.1, .int .i64 x.2.1.1, .int .i64 x.2.2.1] 24)
      have hbX2 := ((Keeps.refl No (wr.alloc (.cells #[.int .i64 x.1.1, .int .i64 x.2.1.1, .int .i64 x.2.2.1] 24))).alloc (.cells #[.int .u8 120] 5 (1, 2))).blk hbX (not_No _)
      clear hbX
      unfold keyCells at hld
      by_cases hbx : badKey x
      · rw [show sealA A [] x ⟨#[98]⟩ [120] = (A, 0, 2) from by unfold sealA; rw [if_pos (.inl hbx)]] at hseal
        go_wp2_with (refine wpList_loadV rfl 24 _ rfl _ rfl _ hld ?_)
        refine hseal.mono ?_
        rintro e w5 ⟨rfl, v', hV5, ho5, hk5⟩
        have hown5 := hk5.own (hkB.own hown (fun _ _ => not_No _)) (fun i hi h => hVnot i h (.inr hi))
        have hkr5 := (hkr.transNo hkB).trans hk5 (S := No) (fun i hi h => hVnot i h (.inl hi))
        clear hseal
        go_wp2_with fail
        go_roundg (n - (j + 1))
        case measure => have := Hq.out; omega
        case rel => exact ⟨j + 1, v', A, _, rfl, by omega, rfl, by go_num, by omega, HAB.out, hV5, hown5, hkr5⟩
      · rw [show sealA A [] x ⟨#[98]⟩ [120] = (A ++ [(x, ⟨#[98]⟩, [120])], A.length + 1, 0) from by unfold sealA; rw [if_neg (by simp [hbx]), if_neg (by simp)]] at hseal
        clear hbx
        go_wp2_with (refine wpList_loadV rfl 24 _ rfl _ rfl _ hld ?_)
        refine hseal.mono ?_
        rintro e w5 ⟨rfl, v', hV5, ho5, hk5⟩
        have hown5 := hk5.own (hkB.own hown (fun _ _ => not_No _)) (fun i hi h => hVnot i h (.inr hi))
        have hkr5 := (hkr.transNo hkB).trans hk5 (S := No) (fun i hi h => hVnot i h (.inl hi))
        have hbX5 := hk5.blk hbX2 (fun h => by have := hVlt _ h; omega)
        have d0 := cell_of_row w5 _ 0 _ _ (0, 0) hbX5
        have d1 := cell_of_row w5 _ 1 _ _ (0, 0) hbX5
        have d2 := cell_of_row w5 _ 2 _ _ (0, 0) hbX5
        have hz5 := hkr5.size
        clear hseal
        go_wp2_with (at_builtin; go_loud (refine app_ownK rfl _ _ 37 rfl w1.heap.size 24 _ 3 24 Try.underlying37 key_info rfl (by decide) (by decide) _ A.length _ rfl (hown5.alloc _) _ 1 1 [keyCells x] rfl (SlK.one w5 (keyCells x) 24 rfl) ?h1 ?hb ?hB ?_))
        case h1 => exact keyCells_one x
        case hb => omega
        case hB => simp; omega
        intro v2 w6 hown6 hg6 hat6
        have hkA6 : Keeps No w5 (w5.alloc (.cells (keyCells x).toArray 24)) := (Keeps.refl No w5).alloc _
        have hk6 : Keeps (fun i => vs.ownBlock = some i) (w5.alloc (.cells (keyCells x).toArray 24)) w6 := (Keeps.refl _ _).grown hg6 (fun i hi _ => hi)
        have hat6' : ∀ g, v2.ownBlock = some g → vs.ownBlock = some g ∨ w5.heap.size ≤ g := fun g hg => (hat6 g hg).elim .inl (fun h => .inr (by rw [h]; simp))
        have hV6 := (((hV5.fresh hkA6).keep hk6 (fun i _ hi => .inl (.inr hi))).more (Y := fun i => i < w1.heap.size ∨ v2.ownBlock = some i) (fun i _ hi => by
          rcases hi with h | h
          · exact .inl (.inl h)
          · rcases hat6' i h with h | h
            · exact .inl (.inr h)
            · exact .inr h))
        clear hat6
        go_wp2_with fail
        go_roundg (n - (j + 1))
        case measure => have := Hq.out; omega
        case rel =>
          refine ⟨j + 1, v', A ++ [(x, ⟨#[98]⟩, [120])], _, rfl, by omega, rfl, by go_num, by simp; omega, ?_, hV6, ?_, ?_⟩
          · intro e he
            rcases List.mem_append.1 he with he | he
            · exact HAB.out e he
            · simp at he; subst he; exact ⟨rfl, rfl⟩
          · rw [keysOf_snoc, List.length_append]
            exact hown6
          · exact (hkr5.transNo hkA6).trans hk6 (fun i hi h => by have := (hown.lt i h).1; omega)
    · obtain rfl : n = j := by omega
      have hdes := va_destroy b m v A [] _ gone wr hV (by decide)
      have hbG := hkr.blk ((hk1.blk (heap_alloc_new w (.cells #[.int .i64 gone.1.1, .int .i64 gone.2.1.1, .int .i64 gone.2.2.1] 24))) (not_No _)) (not_No _)
      have g0 := cell_of_row wr _ 0 _ _ (0, 0) hbG
      have g1 := cell_of_row wr _ 1 _ _ (0, 0) hbG
      have g2 := cell_of_row wr _ 2 _ _ (0, 0) hbG
      have hVnot := hV.not
      rw [show ([] : List K3) ++ [gone] = [gone] from rfl] at hdes
      go_wp2_with fail
      refine hdes.mono ?_
      rintro e w5 ⟨rfl, hV5, hk5⟩
      have hown5 := hk5.own hown (fun i hi h => hVnot i h (.inr hi))
      have hkr5 : Keeps No w w5 := (hk01.transNo hkr).trans hk5 (fun i hi h => hVnot i h (.inl (by omega)))
      obtain ⟨av, cv, rfl, hsv, _⟩ := SlK.ofOwn (xs := keysOf A) (by decide) (keysOf_wide _) hown5
      have hbG5 := hk5.blk hbG (fun h => hVnot _ h (.inl (by omega)))
      clear hdes g0 g1 g2 Hq hown hown5 hV
      go_wp2_with fail
      go_loopg [11, 12, 13, 14, 49] A.length (fun q _ _ _ _ i wx => ∃ (j : Nat), j ≤ A.length ∧ q = A.length - j ∧ i = .int .i64 j ∧ Keeps No w5 wx)
      case atStart => exact ⟨0, Nat.zero_le _, rfl, rfl, Keeps.refl _ _⟩
      case round =>
        obtain ⟨j, hj, hq, rfl, hkx⟩ := hrel
        have Hq := Lib.hid hq
        clear hq
        have hbGx := hkx.blk hbG5 (not_No _)
        by_cases hlt2 : j < A.length
        · have hsr := hsv.kept hkx
          have hix := hsr.ix (P := Try.prog) Try.underlying37 (by kernel_rfl) hlt2 .i64
          obtain ⟨hld, _⟩ := hsr.load (P := Try.prog) (ty := 24) Try.underlying24 rfl (by kernel_rfl) hlt2
          obtain ⟨x, hx⟩ : ∃ x, x = A[j] := ⟨_, rfl⟩
          have hxB := HAB.out x (by rw [hx]; exact List.getElem_mem hlt2)
          have hxc : (keysOf A).getD j [] = keyCells x.1 := by rw [hx]; exact keysOf_at A j hlt2
          rw [hxc] at hld
          have hop := fun wy (hy : Keeps No w5 wy) => va_open b m v A [gone] _ x.1 ⟨#[98]⟩ (j + 1) wy (hV5.kept hy) (by omega) (by omega)
          have hopA : openA A [gone] x.1 ⟨#[98]⟩ (j + 1) = if x.1 = gone then ([], 50) else (x.2.2, 0) := by
            unfold openA
            simp only [List.mem_singleton, Nat.add_sub_cancel, Nat.add_one_ne_zero, if_false, List.getElem?_eq_getElem hlt2, ← hx]
            simp [hxB.1]
          rw [hopA] at hop
          have hneq := fun wy => key_neq x.1 gone wy
          have heql := fun wy => key_eql x.1 gone wy
          have hbY := heap_alloc_new wr (.cells #[.int .i64 x.1.1.1, .int .i64 x.1.2.1.1, .int .i64 x.1.2.2.1] 24)
          have hkY : Keeps No wr (wr.alloc (.cells #[.int .i64 x.1.1.1, .int .i64 x.1.2.1.1, .int .i64 x.1.2.2.1] 24)) := (Keeps.refl No wr).alloc _
          have hbGY := hkY.blk hbGx (not_No _)
          have hopW := hop _ (hkx.transNo hkY)
          unfold keyCells at hld hneq heql
          clear hx hxc hopA hop hsr
          by_cases hxg : x.1 = gone
          · rw [if_pos hxg] at hopW
            simp only [decide_eq_true hxg] at hneq heql
            have HX := Lib.hid hxg
            clear hxg
            go_wp2_with (refine wpList_loadV rfl 24 _ rfl _ rfl _ hld ?_)
            refine hopW.mono ?_
            rintro e w7 ⟨a7, n7, c7, rfl, hk7, hs7, hf7, hn7⟩
            have hbY7 := hk7.blk hbY (not_No _)
            have hbG7 := hk7.blk hbGY (not_No _)
            have y0 := cell_of_row w7 _ 0 _ _ (0, 0) hbY7
            have y1 := cell_of_row w7 _ 1 _ _ (0, 0) hbY7
            have y2 := cell_of_row w7 _ 2 _ _ (0, 0) hbY7
            have g0 := cell_of_row w7 _ 0 _ _ (0, 0) hbG7
            have g1 := cell_of_row w7 _ 1 _ _ (0, 0) hbG7
            have g2 := cell_of_row w7 _ 2 _ _ (0, 0) hbG7
            clear hopW
            go_wp2_with fail
            go_roundg (A.length - (j + 1))
            case measure => have := Hq.out; omega
            case rel => exact ⟨j + 1, by omega, rfl, by go_num, (hkx.transNo hkY).transNo hk7⟩
          · rw [if_neg hxg] at hopW
            simp only [decide_eq_false hxg] at hneq heql
            have HX := Lib.hid hxg
            clear hxg
            go_wp2_with (refine wpList_loadV rfl 24 _ rfl _ rfl _ hld ?_)
            refine hopW.mono ?_
            rintro e w7 ⟨a7, n7, c7, rfl, hk7, hs7, hf7, hn7⟩
            have hbY7 := hk7.blk hbY (not_No _)
            have hbG7 := hk7.blk hbGY (not_No _)
            have y0 := cell_of_row w7 _ 0 _ _ (0, 0) hbY7
            have y1 := cell_of_row w7 _ 1 _ _ (0, 0) hbY7
            have y2 := cell_of_row w7 _ 2 _ _ (0, 0) hbY7
            have g0 := cell_of_row w7 _ 0 _ _ (0, 0) hbG7
            have g1 := cell_of_row w7 _ 1 _ _ (0, 0) hbG7
            have g2 := cell_of_row w7 _ 2 _ _ (0, 0) hbG7
            clear hopW
            go_wp2_with fail
            go_roundg (A.length - (j + 1))
            case measure => have := Hq.out; omega
            case rel => exact ⟨j + 1, by omega, rfl, by go_num, (hkx.transNo hkY).transNo hk7⟩
        · obtain rfl : A.length = j := by omega
          have g0 := cell_of_row wr _ 0 _ _ (0, 0) hbGx
          have g1 := cell_of_row wr _ 1 _ _ (0, 0) hbGx
          have g2 := cell_of_row wr _ 2 _ _ (0, 0) hbGx
          have hVx := hV5.kept hkx
          have hdes := va_destroy b m v A [gone] _ gone wr hVx (show 1 < maxLen by decide)
          rw [show [gone] ++ [gone] = [gone, gone] from rfl] at hdes
          have hVnot := hVx.not
          have hsb := hkr5.size
          clear Hq
          go_wp2_with fail
          refine hdes.mono ?_
          rintro e w6 ⟨rfl, hV6, hk6⟩
          have hbG6 := hk6.blk hbGx (fun h => hVnot _ h (.inl (by omega)))
          have g0 := cell_of_row w6 _ 0 _ _ (0, 0) hbG6
          have g1 := cell_of_row w6 _ 1 _ _ (0, 0) hbG6
          have g2 := cell_of_row w6 _ 2 _ _ (0, 0) hbG6
          have hop := va_open b m v A [gone, gone] _ gone ByteArray.empty 1 w6 hV6 (by omega) (by omega)
          rw [show openA A [gone, gone] gone ByteArray.empty 1 = ([], 50) from by unfold openA; rw [if_pos (by simp)]] at hop
          have hkr6 : Keeps No w w6 := (hkr5.transNo hkx).trans hk6 (fun i hi h => hVnot i h (.inl (by omega)))
          clear hdes
          go_wp2_with fail
          refine hop.mono ?_
          rintro e w7 ⟨a7, n7, c7, rfl, hk7, hs7, hf7, hn7⟩
          have hse := va_sealed b m v A _ _ w7 (hV6.kept hk7)
          clear hop
          go_wp2_with fail
          refine hse.mono ?_
          rintro e w8 ⟨rfl, rfl⟩
          go_wp2_with fail
          go_ret
          exact ⟨rfl, hkr6.transNo hk7⟩
end Go.Proofs.Ytpceigiofbeihaa
