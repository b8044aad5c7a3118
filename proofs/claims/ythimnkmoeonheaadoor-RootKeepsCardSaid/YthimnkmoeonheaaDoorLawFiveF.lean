/- The law of vault: what comes first. -/
import Derived.Test.YthimnkmoeonheaaDoorVaultA
import Derived.Lib.SlBytesConst
import Derived.Deep.LoopGhost
import Derived.Deep.DeepFit
namespace Go.Proofs.YthimnkmoeonheaaDoor
open Go.RowKit
set_option linter.unusedSimpArgs false
set_option linter.unusedVariables false
set_option maxRecDepth 100000

theorem strV {w : World} {a : Option Addr} {n c : Nat} {b : List UInt8} (h : Sl w a n c (b.map byteV)) : (convert 35 9 (.slice a n c)).run Tryd.prog w = .ok (.string ⟨b.toArray⟩) w :=
  h.str 35 9 5 Tryd.underlying35 Tryd.underlying5 Tryd.underlying9

theorem convK (w : World) (C : Array Value) (n c g : Nat) (hg : w.heap.size = g) : (convert 35 35 (.slice (some ⟨g, 0, none⟩) n c)).run Tryd.prog (w.alloc (.cells C 5)) = .ok (.slice (some ⟨g, 0, none⟩) n c) (w.alloc (.cells C 5 (C.size, C.size + 1))) := by
  subst hg
  exact Lib.run_convert_bytes_const (P := Tryd.prog) w 35 5 C n c Tryd.underlying35 Tryd.underlying5

theorem slX (w : World) (o : Obj) : Sl ((w.alloc o).alloc (.cells #[.int .u8 120] 5 (1, 2))) (some ⟨w.heap.size + 1, 0, none⟩) 1 1 (([120] : List UInt8).map byteV) := by
  have := Sl.litF (w.alloc o) #[.int .u8 120] 5 (1, 2) (([120] : List UInt8).map byteV) rfl 1 rfl (by decide)
  rw [show (w.alloc o).heap.size = w.heap.size + 1 from by simp] at this
  exact this

def k123 : K3 := (⟨1, by decide⟩, ⟨2, by decide⟩, ⟨3, by decide⟩)
theorem seal123 : sealA [] [] k123 ⟨#[97]⟩ [120] = ([(k123, ⟨#[97]⟩, [120])], 1, 0) := by
  simp [sealA, badKey, k123]
theorem k123_ne : ¬ k123 = zeroKey := by
  intro e
  have := congrArg (fun k : K3 => k.1.1) e
  exact absurd this (by decide)

end Go.Proofs.YthimnkmoeonheaaDoor
