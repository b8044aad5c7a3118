/- The law of vault: what comes first. -/
import Derived.Test.YtpceigiofbeihaaVaultA
import Derived.Lib.SlBytesConst
import Derived.Deep.LoopGhost
import Derived.Deep.DeepFit
namespace Go.Proofs.Ytpceigiofbeihaa
open Go.RowKit
set_option linter.unusedSimpArgs false
set_option linter.unusedVariables false

theorem strV {w : World} {a : Option Addr} {n c : Nat} {b : List UInt8} (h : Sl w a n c (b.map byteV)) : (convert 28 9 (.slice a n c)).run Try.prog w = .ok (.string ⟨b.toArray⟩) w :=
  h.str 28 9 5 Try.underlying28 Try.underlying5 Try.underlying9

theorem convK (w : World) (C : Array Value) (n c g : Nat) (hg : w.heap.size = g) : (convert 28 28 (.slice (some ⟨g, 0, none⟩) n c)).run Try.prog (w.alloc (.cells C 5)) = .ok (.slice (some ⟨g, 0, none⟩) n c) (w.alloc (.cells C 5 (C.size, C.size + 1))) := by
  subst hg
  exact Lib.run_convert_bytes_const (P := Try.prog) w 28 5 C n c Try.underlying28 Try.underlying5

theorem slX (w : World) (o : Obj) : Sl ((w.alloc o).alloc (.cells #[.int .u8 120] 5 (1, 2))) (some ⟨w.heap.size + 1, 0, none⟩) 1 1 (([120] : List UInt8).map byteV) := by
  have := Sl.litF (w.alloc o) #[.int .u8 120] 5 (1, 2) (([120] : List UInt8).map byteV) rfl 1 rfl (by decide)
  rw [show (w.alloc o).heap.size = w.heap.size + 1 from by simp] at this
  exact this

def k123 : K3 := (⟨1, by decide⟩, ⟨2, by decide⟩, ⟨3, by decide⟩)
theorem seal123 : sealA [] [] k123 ⟨#[97]⟩ [120] = ([(k123, ⟨#[97]⟩, [120])], 1, 0) := by
  simp [sealA, badKey, k123]
theorem k123_ne : ¬ k123 = zeroKey := by
  intro e
  have := congrArg (fun k : K3 => k.1.1) e
  exact absurd this (by decide)

set_option maxHeartbeats 1000000 in
theorem first05_any (w : World) :
    Calls Try.prog 11 #[] w fun e w' => e = .returned (.bool true) ∧ Keeps No w w' := by
  have kc := convK
  go_enter Try.func11, Try.ntmps11
  go_wp2_with fail
  refine (va_new w).mono ?_
  rintro e w1 ⟨b, m, rfl, hV1, hk1⟩
  have hV1' : VA w1 b m (.slice none 0 0) [] [] (fun i => i < w.heap.size) := hV1
  have hkA : Keeps No w1 (w1.alloc (.cells #[.int .i64 1, .int .i64 2, .int .i64 3] 24)) := (Keeps.refl No w1).alloc _
  have hkB : Keeps No w1 ((w1.alloc (.cells #[.int .i64 1, .int .i64 2, .int .i64 3] 24)).alloc (.cells #[.int .u8 120] 5 (1, 2))) := hkA.alloc _
  have hsl : Sl ((w1.alloc (.cells #[.int .i64 1, .int .i64 2, .int .i64 3] 24)).alloc (.cells #[.int .u8 120] 5 (1, 2))) (some ⟨w1.heap.size + 1, 0, none⟩) 1 1 (([120] : List UInt8).map byteV) := by
    have := Sl.litF (w1.alloc (.cells #[.int .i64 1, .int .i64 2, .int .i64 3] 24)) #[.int .u8 120] 5 (1, 2) (([120] : List UInt8).map byteV) rfl 1 rfl (by decide)
    rw [show (w1.alloc (.cells #[.int .i64 1, .int .i64 2, .int .i64 3] 24)).heap.size = w1.heap.size + 1 from by simp] at this
    exact this
  have hseal := va_seal b m _ [] [] _ k123 ⟨#[97]⟩ _ 1 1 [120] _ (hV1.kept hkB) (fun i hi => by have := hk1.size; have := hkB.size; omega) hsl (by omega) (by simp)
  rw [seal123] at hseal
  go_wp2_with fail
  refine hseal.mono ?_
  rintro e w2 ⟨rfl, v2, hV2, ho2, hk2⟩
  clear hseal hsl
  have hz1 := hk1.size
  have hnot : ∀ i, VO b m (.slice none 0 0) i → ¬ i < w.heap.size := hV1.not
  have hltO := hV1.lt
  have hk02 : Keeps No w w2 := (hk1.transNo hkB).trans hk2 (fun i hi h => hnot i h hi)
  have hbK0 := heap_alloc_new w1 (.cells #[.int .i64 1, .int .i64 2, .int .i64 3] 24)
  have hbK1 := ((Keeps.refl No (w1.alloc (.cells #[.int .i64 1, .int .i64 2, .int .i64 3] 24))).alloc (.cells #[.int .u8 120] 5 (1, 2))).blk hbK0 (not_No _)
  have hbK := hk2.blk hbK1 (fun h => by have := hltO _ h; omega)
  have d0 := cell_of_row w2 _ 0 _ _ (0, 0) hbK
  have d1 := cell_of_row w2 _ 1 _ _ (0, 0) hbK
  have d2 := cell_of_row w2 _ 2 _ _ (0, 0) hbK
  have ho1 := va_open b m v2 _ [] _ k123 ⟨#[97]⟩ 1 w2 hV2 (by omega) (by simp)
  rw [show openA [(k123, (⟨#[97]⟩ : ByteArray), [120])] [] k123 ⟨#[97]⟩ 1 = ([120], 0) from by simp [openA]] at ho1
  go_wp2_with fail
  refine ho1.mono ?_
  rintro e w3 ⟨a3, n3, c3, rfl, hk3, hs3, hf3, hn3⟩
  have e3 := fun wx (hx : Keeps No w3 wx) => strV (hs3.kept hx)
  have hV3 := hV2.kept hk3
  have hbK3 := hk3.blk hbK (not_No _)
  have d0 := cell_of_row w3 _ 0 _ _ (0, 0) hbK3
  have d1 := cell_of_row w3 _ 1 _ _ (0, 0) hbK3
  have d2 := cell_of_row w3 _ 2 _ _ (0, 0) hbK3
  have ho2' := va_open b m v2 _ [] _ k123 ⟨#[98]⟩ 1 w3 hV3 (by omega) (by simp)
  rw [show openA [(k123, (⟨#[97]⟩ : ByteArray), [120])] [] k123 ⟨#[98]⟩ 1 = ([], 51) from by simp [openA]] at ho2'
  clear ho1
  go_wp2_with fail
  refine ho2'.mono ?_
  rintro e w4 ⟨a4, n4, c4, rfl, hk4, hs4, hf4, hn4⟩
  have hV4 := hV3.kept hk4
  have ho3 := va_open b m v2 _ [] _ zeroKey ⟨#[97]⟩ 1 w4 hV4 (by omega) (by simp)
  rw [show openA [(k123, (⟨#[97]⟩ : ByteArray), [120])] [] zeroKey ⟨#[97]⟩ 1 = ([], 51) from by simp [openA, k123_ne]] at ho3
  clear ho2'
  go_wp2_with fail
  refine ho3.mono ?_
  rintro e w5 ⟨a5, n5, c5, rfl, hk5, hs5, hf5, hn5⟩
  have hV5 := hV4.kept hk5
  have e5 := e3 _ (hk4.transNo hk5)
  have hse := va_sealed b m v2 _ [] _ w5 hV5
  clear ho3 e3
  go_wp2_with fail
  refine hse.mono ?_
  rintro e w6 ⟨rfl, rfl⟩
  go_wp2_with fail
  go_ret
  exact ⟨rfl, hk02.transNo (hk3.transNo (hk4.transNo hk5))⟩
end Go.Proofs.Ytpceigiofbeihaa
