/- Conversions between bytes and strings, as the walk asks them. -/
import Derived.Test.YthimnkmoeonheaaDoorBase
import Derived.Lib.SlBytesConst
namespace Go.Proofs.YthimnkmoeonheaaDoor
open Go.RowKit
set_option linter.unusedSimpArgs false
set_option linter.unusedVariables false

theorem strB {w : World} {a : Option Addr} {n c : Nat} {b : List UInt8} (h : Sl w a n c (b.map byteV)) : (convert 35 9 (.slice a n c)).run Tryd.prog w = .ok (.string ⟨b.toArray⟩) w :=
  h.str 35 9 5 Tryd.underlying35 Tryd.underlying5 Tryd.underlying9

theorem convB (w : World) (C : Array Value) (n c g : Nat) (hg : w.heap.size = g) : (convert 35 35 (.slice (some ⟨g, 0, none⟩) n c)).run Tryd.prog (w.alloc (.cells C 5)) = .ok (.slice (some ⟨g, 0, none⟩) n c) (w.alloc (.cells C 5 (C.size, C.size + 1))) := by
  subst hg
  exact Lib.run_convert_bytes_const (P := Tryd.prog) w 35 5 C n c Tryd.underlying35 Tryd.underlying5
theorem Sl.litK (w : World) (arr : Array Value) (t : TypeId) (fr : Nat × Nat) (b : List UInt8) (h : arr.toList = b.map byteV) (n : Nat) (hn : n = b.length) (hm : n ≤ maxLen) : Sl (w.alloc (.cells arr t fr)) (some ⟨w.heap.size, 0, Option.none⟩) n n (b.map byteV) := Sl.litF w arr t fr _ h n (by simpa using hn) hm
end Go.Proofs.YthimnkmoeonheaaDoor
