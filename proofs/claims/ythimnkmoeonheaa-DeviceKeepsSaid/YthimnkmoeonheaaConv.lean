/- Conversions between bytes and strings, as the walk asks them. -/
import Derived.Test.YthimnkmoeonheaaBase
import Derived.Lib.SlBytesConst
namespace Go.Proofs.Ythimnkmoeonheaa
open Go.RowKit
set_option linter.unusedSimpArgs false
set_option linter.unusedVariables false

theorem strB {w : World} {a : Option Addr} {n c : Nat} {b : List UInt8} (h : Sl w a n c (b.map byteV)) : (convert 22 9 (.slice a n c)).run Try.prog w = .ok (.string ⟨b.toArray⟩) w :=
  h.str 22 9 5 Try.underlying22 Try.underlying5 Try.underlying9

theorem convB (w : World) (C : Array Value) (n c g : Nat) (hg : w.heap.size = g) : (convert 22 22 (.slice (some ⟨g, 0, none⟩) n c)).run Try.prog (w.alloc (.cells C 5)) = .ok (.slice (some ⟨g, 0, none⟩) n c) (w.alloc (.cells C 5 (C.size, C.size + 1))) := by
  subst hg
  exact Lib.run_convert_bytes_const (P := Try.prog) w 22 5 C n c Try.underlying22 Try.underlying5
theorem Sl.litK (w : World) (arr : Array Value) (t : TypeId) (fr : Nat × Nat) (b : List UInt8) (h : arr.toList = b.map byteV) (n : Nat) (hn : n = b.length) (hm : n ≤ maxLen) : Sl (w.alloc (.cells arr t fr)) (some ⟨w.heap.size, 0, Option.none⟩) n n (b.map byteV) := Sl.litF w arr t fr _ h n (by simpa using hn) hm
end Go.Proofs.Ythimnkmoeonheaa
