/- Words and lemmas on memory that the walks of this seat share: what is kept, how a slice reads. -/
import Derived.Test.YthbipcjgpocpaaaGreatProg
import Derived.WalkKit
import Derived.KernelRfl
import Derived.WalkSpells
import Derived.WalkLawsBesides
import Derived.Deep.QuietTactic
import Derived.BigQuiet
import Derived.Laws.AppendOwnNone
import Derived.Laws.CopyOwn
import Derived.Laws.BytesString
import Derived.Laws.BytesArg
import Derived.Lib.ConvBytes
import Derived.Lib.Hide
import Derived.Lib.AppendStr
import Derived.Deep.RegionHeld3
namespace Go.Proofs.YthbipcjgpocpaaaGreat
set_option linter.unusedSimpArgs false
set_option linter.unusedVariables false
open Go.RowKit

/-- A byte as the value of a cell. -/
def byteV (x : UInt8) : Value := .int .u8 (x.toNat : Int)
def intV (x : Int) : Value := .int .i64 x

def lenOf : Value → Nat | .slice _ n _ => n | _ => 0

/-- All blocks of w but those in S are in w' as they were. -/
structure Keeps (S : Nat → Prop) (w w' : World) : Prop where
  os : w'.os = w.os
  tape : w'.tape = w.tape
  output : w'.output = w.output
  size : w.heap.size ≤ w'.heap.size
  block : ∀ k, k < w.heap.size → ¬ S k → w'.heap[k]? = w.heap[k]?

def No : Nat → Prop := fun _ => False
theorem not_No (k : Nat) : ¬ No k := fun h => h

namespace Keeps
variable {S T : Nat → Prop} {a b c w w' : World}
theorem refl (S : Nat → Prop) (w : World) : Keeps S w w := ⟨rfl, rfl, rfl, Nat.le_refl _, fun _ _ _ => rfl⟩
theorem trans (h : Keeps S a b) (k : Keeps T b c) (hT : ∀ i, i < a.heap.size → T i → S i) : Keeps S a c :=
  ⟨k.os.trans h.os, k.tape.trans h.tape, k.output.trans h.output, Nat.le_trans h.size k.size,
    fun i hi hs => (k.block i (Nat.lt_of_lt_of_le hi h.size) (fun t => hs (hT i hi t))).trans (h.block i hi hs)⟩
theorem mono (h : Keeps S a b) (hT : ∀ i, i < a.heap.size → S i → T i) : Keeps T a b :=
  ⟨h.os, h.tape, h.output, h.size, fun i hi hs => h.block i hi (fun s => hs (hT i hi s))⟩
theorem no (h : Keeps No a b) : Keeps S a b := h.mono fun _ _ h => h.elim
theorem transNo (h : Keeps S a b) (k : Keeps No b c) : Keeps S a c := h.trans k fun _ _ h => h.elim
theorem noTrans (h : Keeps No a b) (k : Keeps T b c) (hT : ∀ i, i < a.heap.size → T i → S i) : Keeps S a c := (h.no (S := S)).trans k hT
theorem drew (h : Keeps S a w) : Keeps S a w.drew := ⟨h.os, h.tape, h.output, h.size, h.block⟩
theorem drewN (h : Keeps S a w) (n : Nat) : Keeps S a (w.drewN n) := ⟨h.os, h.tape, h.output, h.size, h.block⟩
theorem alloc (h : Keeps S a w) (o : Obj) : Keeps S a (w.alloc o) :=
  h.trans (T := S) ⟨rfl, rfl, rfl, by simp, fun k hk _ => Below.heap_alloc _ _ _ hk⟩ fun _ _ h => h
theorem ofAlloc {o : Obj} (h : Keeps S (a.alloc o) w) : Keeps S a w := ((Keeps.refl S a).alloc o).trans h fun _ _ h => h
theorem ofDrew (h : Keeps S a.drew w) : Keeps S a w := ((Keeps.refl S a).drew).trans h fun _ _ h => h
theorem setCell (h : Keeps S a w) {p : Addr} (hp : p.block < a.heap.size → S p.block) (u : Value) : Keeps S a (w.setCell p u) :=
  h.trans (T := fun k => k = p.block) ⟨rfl, rfl, rfl, by simp [World.setCell], fun k _ hk => Below.heap_setCell _ _ _ _ hk⟩ fun i hi e => by subst e; exact hp hi
theorem set (w : World) (b j : Nat) (v : Value) : Keeps (fun k => k = b) w (w.setCell ⟨b, j, none⟩ v) := (Keeps.refl (fun k => k = b) w).setCell (p := ⟨b, j, none⟩) (fun _ => rfl) v
theorem grown {row : Option Nat} (h : Keeps S a w) (hg : w.grownBy w' row) (hr : ∀ k, row = some k → k < a.heap.size → S k) : Keeps S a w' :=
  h.trans (T := fun k => row = some k) ⟨hg.os, hg.tape, hg.output, hg.size, fun k hk hs => hg.block k hk (fun e => hs e.symm)⟩ fun i hi e => hr i e hi
theorem ofBelow (h : Below a.heap.size a b) : Keeps No a b := ⟨h.os, h.tape, h.output, h.size, fun k hk _ => h.block k hk⟩
theorem toBelow (h : Keeps S a b) (B : Nat) (hB : ∀ k, k < B → k < a.heap.size ∧ ¬ S k) : Below B a b :=
  ⟨h.os, h.tape, h.output, h.size, fun k hk => h.block k (hB k hk).1 (hB k hk).2⟩
theorem below (h : Keeps No a b) : Below a.heap.size a b := h.toBelow _ fun k hk => ⟨hk, not_No k⟩
theorem blk (h : Keeps S a b) {k : Nat} {o : Obj} (hk : a.heap[k]? = some o) (hs : ¬ S k) : b.heap[k]? = some o :=
  (h.block k (Array.getElem?_eq_some_iff.1 hk).1 hs).trans hk
theorem cell (h : Keeps S a b) {p : Addr} {v : Value} (hc : a.cell? p = some v) (hs : ¬ S p.block) : b.cell? p = some v :=
  (World.cell?_of_block (w := a) (h.block p.block (World.block_lt_of_cell? _ _ hc) hs)).trans hc
theorem own {base : Nat} {e : TypeId} {size : Nat} {v : Value} {n : Nat} {xs : List Value} (k : Keeps S a b) (h : a.ownsRow base e size v n xs) (hs : ∀ i, v.ownBlock = some i → ¬ S i) : b.ownsRow base e size v n xs := by
  refine ⟨h.1, ?_⟩
  rcases h.2 with hn | ⟨g, cap, cur, rfl, hb, hgg, rest⟩
  · exact .inl hn
  · exact .inr ⟨g, cap, cur, rfl, hb, k.blk hgg (hs g rfl), rest⟩
end Keeps

/-- The slice value '.slice a n c' reads as xs (each element one cell). -/
structure Sl (w : World) (a : Option Addr) (n c : Nat) (xs : List Value) : Prop where
  len : xs.length = n
  le : n ≤ c
  max : c ≤ maxLen
  nil : a = none → n = 0 ∧ c = 0
  cell : ∀ i, i < n → w.cell? ((a.getD default).add i) = xs[i]?

namespace Sl
variable {w w' : World} {a : Option Addr} {n c : Nat} {xs : List Value}
theorem none (w : World) : Sl w none 0 0 [] := ⟨rfl, Nat.le_refl _, Nat.zero_le _, fun _ => ⟨rfl, rfl⟩, fun i hi => absurd hi (by omega)⟩
theorem isSome (h : Sl w a n c xs) {i : Nat} (hi : i < n) : a = some (a.getD default) := by
  cases a with
  | none => have := (h.nil rfl).1; omega
  | some x => rfl
theorem lt (h : Sl w a n c xs) (hn : 0 < n) : (a.getD default).block < w.heap.size := by
  have := h.cell 0 hn
  rw [Addr.add_zero'] at this
  have hl : 0 < xs.length := by have := h.len; omega
  rw [List.getElem?_eq_getElem hl] at this
  exact World.block_lt_of_cell? _ _ this
theorem block_add (ad : Addr) (i : Nat) : (ad.add i).block = ad.block := by unfold Addr.add; split <;> rfl
theorem keep {S : Nat → Prop} (h : Sl w a n c xs) (k : Keeps S w w') (hs : 0 < n → ¬ S (a.getD default).block) : Sl w' a n c xs := by
  refine ⟨h.len, h.le, h.max, h.nil, fun i hi => ?_⟩
  rw [← h.cell i hi]
  refine World.cell?_of_block (w := w) (k.block _ ?_ ?_)
  · rw [block_add]; exact h.lt (by omega)
  · rw [block_add]; exact hs (by omega)
theorem kept (h : Sl w a n c xs) (k : Keeps No w w') : Sl w' a n c xs := h.keep k fun _ => not_No _
/-- The cell of an index, in the walk's own spelling. -/
theorem at_ (h : Sl w a n c xs) {i : Nat} (hi : i < n) : w.cell? ((a.getD default).add i) = some (xs.getD i undef) := by
  rw [h.cell i hi]
  have hl : i < xs.length := by have := h.len; omega
  simp [hl]
theorem ofOwn {base : Nat} {e : TypeId} {v : Value} {k : Nat} (h : w.ownsRow base e 1 v k xs) : ∃ a c, v = .slice a k c ∧ Sl w a k c xs ∧ (∀ x, a = some x → ∃ g, x = ⟨g, 0, Option.none⟩ ∧ base ≤ g ∧ g < w.heap.size) := by
  have hlen : xs.length = k := by simpa using h.1
  rcases h.2 with ⟨rfl, rfl⟩ | ⟨g, cap, cur, rfl, hbase, hgg, hle, hmax, hsz, htake⟩
  · exact ⟨_, _, rfl, by cases xs with | nil => exact Sl.none w | cons _ _ => simp at hlen, fun _ h => by simp at h⟩
  · refine ⟨_, _, rfl, ⟨hlen, hle, hmax, fun h => by simp at h, fun i hi => ?_⟩, fun b h => by cases h; exact ⟨g, rfl, hbase, (Array.getElem?_eq_some_iff.1 hgg).1⟩⟩
    have := h.cells (g := g) rfl i
    have hl : i < xs.length := by omega
    rw [List.getElem?_eq_getElem hl]
    exact this _ (List.getElem?_eq_getElem hl)
/-- What the walk asks at 'xs[i]', as a rule: the address of the element (of one cell). -/
theorem ix {P : Program} {T e : TypeId} (h : Sl w a n c xs) (hu : P.underlying T = some (.slice e)) (hz : (P.info? e).map (·.size) = some 1) {i : Nat} (hi : i < n) (kd : IntKind) :
    ∀ wx, (Instr.indexAt T (.slice a n c) (.int kd (i : Int))).run P wx = .ok (.pointer (some ((a.getD default).add i))) wx := by
  intro wx
  obtain ⟨f, hf, hf1⟩ := Option.map_eq_some_iff.1 hz
  rw [h.isSome hi, run_indexAt_slice (P := P) wx T _ n c kd i (by simp [Program.elem, hu])]
  have : (0 : Int) ≤ (i : Int) ∧ (i : Int) < (n : Int) := by omega
  rw [if_pos this]
  simp [sizeOf, typeInfo, Program.elem, hu, hf, hf1, Result.andThen]
/-- The same where the index is spelled as a reckoned number z. -/
theorem ixz {P : Program} {T e : TypeId} (h : Sl w a n c xs) (hu : P.underlying T = some (.slice e)) (hz : (P.info? e).map (·.size) = some 1) (z : Int) {i : Nat} (hzi : z = (i : Int)) (hi : i < n) (kd : IntKind) :
    ∀ wx, (Instr.indexAt T (.slice a n c) (.int kd z)).run P wx = .ok (.pointer (some ((a.getD default).add i))) wx := by
  subst hzi
  exact h.ix hu hz hi kd
theorem one (w : World) (x : Value) (t : TypeId) : Sl (w.alloc (.cells #[x] t)) (some ⟨w.heap.size, 0, Option.none⟩) 1 1 [x] := by
  refine ⟨rfl, Nat.le_refl _, by unfold maxLen; omega, fun h => by simp at h, fun i hi => ?_⟩
  obtain rfl : i = 0 := by omega
  exact cell_one_new w x t 0 x rfl
/-- A slice that is written out. -/
theorem litF (w : World) (arr : Array Value) (t : TypeId) (fr : Nat × Nat) (xs : List Value) (h : arr.toList = xs) (n : Nat) (hn : n = xs.length) (hm : n ≤ maxLen) : Sl (w.alloc (.cells arr t fr)) (some ⟨w.heap.size, 0, Option.none⟩) n n xs := by
  subst hn
  refine ⟨rfl, Nat.le_refl _, hm, fun h => by simp at h, fun i hi => ?_⟩
  show (w.alloc (.cells arr t fr)).cell? ((⟨w.heap.size, 0, Option.none⟩ : Addr).add i) = _
  rw [Addr.add_lit, Nat.zero_add]
  have : (w.alloc (.cells arr t fr)).heap[w.heap.size]? = some (.cells arr t fr) := heap_alloc_new w _
  rw [cell_of_row (w.alloc (.cells arr t fr)) w.heap.size i arr t fr this, ← h]
  simp
theorem lit (w : World) (arr : Array Value) (t : TypeId) (xs : List Value) (h : arr.toList = xs) (n : Nat) (hn : n = xs.length) (hm : n ≤ maxLen) : Sl (w.alloc (.cells arr t)) (some ⟨w.heap.size, 0, Option.none⟩) n n xs := litF w arr t (0, 0) xs h n hn hm
/-- 's[k:]', as the walk writes it. -/
theorem dropv (h : Sl w a n c xs) {k : Nat} (hk : k ≤ n) : Sl w (if c = k then a else a.map (·.add k)) (n - k) (c - k) (xs.drop k) := by
  have hle := h.le
  refine ⟨by simp [h.len], by omega, by have := h.max; omega, ?_, ?_⟩
  · intro hn
    split at hn
    · have := h.nil hn; omega
    · simp at hn
      have := h.nil hn; omega
  · intro i hi
    have h1 : ¬ c = k := by omega
    rw [if_neg h1]
    have hs := h.isSome (i := k + i) (by omega)
    have hc := h.cell (k + i) (by omega)
    rw [hs]
    simp only [Option.map_some, Option.getD_some, List.getElem?_drop]
    rw [Addr.add_add]
    exact hc
/-- 's[:k]', as the walk writes it. -/
theorem takev (h : Sl w a n c xs) {k : Nat} (hk : k ≤ n) : Sl w a k c (xs.take k) :=
  ⟨by simp [h.len]; omega, by have := h.le; omega, h.max, fun hn => by have := h.nil hn; omega, fun i hi => by rw [h.cell i (by omega), List.getElem?_take, if_pos hi]⟩
/-- 's[k:]': where it lies (kept behind one name), and what it reads as. -/
theorem from_ {P : Program} {T e : TypeId} (h : Sl w a n c xs) (hu : P.underlying T = some (.slice e)) (hz : (P.info? e).map (·.size) = some 1) {k : Nat} (hk : k ≤ n) (kd : IntKind) (z : Int) (hzk : z = (k : Int)) :
    ∃ a2, (∀ wx, (Instr.sliceAt T (.slice a n c) (some (.int kd z)) Option.none Option.none).run P wx = .ok (.slice a2 (n - k) (c - k)) wx) ∧ (∀ wx, (Instr.slice T (.slice a n c) (some (.int kd z)) Option.none Option.none).run P wx = .ok (.slice a2 (n - k) (c - k)) wx) ∧
      Sl w a2 (n - k) (c - k) (xs.drop k) ∧ (k < n → a2 = some ((a.getD default).add k)) := by
  obtain ⟨f, hf, hf1⟩ := Option.map_eq_some_iff.1 hz
  have he : P.elem T = e := by simp [Program.elem, hu]
  have hle := h.le
  subst hzk
  have hrun : ∀ wx, (Instr.slice T (.slice a n c) (some (.int kd (k : Int))) Option.none Option.none).run P wx = .ok (.slice (if c = k then a else a.map (·.add k)) (n - k) (c - k)) wx := by
    intro wx
    rw [run_slice_l (P := P) wx T a n c (by rw [he]; exact hu) kd (k : Int) (by omega) (by omega)]
    simp [sizeOf, typeInfo, he, hf, hf1, Result.andThen, sliced]
  refine ⟨if c = k then a else a.map (·.add k), fun wx => ?_, hrun, ⟨by simp [h.len], by omega, by have := h.max; omega, ?_, ?_⟩, ?_⟩
  · rw [run_sliceAt_slice (P := P) wx T _ _ _ _ (by rw [he]; exact hu)]
    exact hrun wx
  · intro hn
    split at hn
    · have := h.nil hn; omega
    · simp at hn
      have := h.nil hn; omega
  · intro i hi
    have h1 : ¬ c = k := by omega
    rw [if_neg h1]
    have hs := h.isSome (i := k + i) (by omega)
    have hc := h.cell (k + i) (by omega)
    rw [hs]
    simp only [Option.map_some, Option.getD_some, List.getElem?_drop]
    rw [Addr.add_add]
    exact hc
  · intro hkn
    have h1 : ¬ c = k := by omega
    rw [if_neg h1, h.isSome hkn]
    rfl
/-- 's[lo:hi]': where it lies (kept behind one name), and what it reads as. -/
theorem mid {P : Program} {T e : TypeId} (h : Sl w a n c xs) (hu : P.underlying T = some (.slice e)) (hz : (P.info? e).map (·.size) = some 1) {lo hi : Nat} (hlh : lo ≤ hi) (hn : hi ≤ n) (kd kd' : IntKind) (z z' : Int) (hzk : z = (lo : Int)) (hzk' : z' = (hi : Int)) :
    ∃ a2, (∀ wx, (Instr.sliceAt T (.slice a n c) (some (.int kd z)) (some (.int kd' z')) Option.none).run P wx = .ok (.slice a2 (hi - lo) (c - lo)) wx) ∧ (∀ wx, (Instr.slice T (.slice a n c) (some (.int kd z)) (some (.int kd' z')) Option.none).run P wx = .ok (.slice a2 (hi - lo) (c - lo)) wx) ∧
      Sl w a2 (hi - lo) (c - lo) ((xs.drop lo).take (hi - lo)) := by
  obtain ⟨f, hf, hf1⟩ := Option.map_eq_some_iff.1 hz
  have he : P.elem T = e := by simp [Program.elem, hu]
  have hle := h.le
  subst hzk hzk'
  have hrun : ∀ wx, (Instr.slice T (.slice a n c) (some (.int kd (lo : Int))) (some (.int kd' (hi : Int))) Option.none).run P wx = .ok (.slice (if c = lo then a else a.map (·.add lo)) (hi - lo) (c - lo)) wx := by
    intro wx
    rw [run_slice_lh (P := P) wx T a n c (by rw [he]; exact hu) kd kd' (lo : Int) (hi : Int) (by omega) (by omega) (by omega)]
    simp [sizeOf, typeInfo, he, hf, hf1, Result.andThen, sliced]
  refine ⟨if c = lo then a else a.map (·.add lo), fun wx => ?_, hrun, (h.dropv (k := lo) (by omega)).takev (k := hi - lo) (by omega)⟩
  rw [run_sliceAt_slice (P := P) wx T _ _ _ _ (by rw [he]; exact hu)]
  exact hrun wx
/-- 's[:k]' -/
theorem upto {P : Program} {T e : TypeId} (h : Sl w a n c xs) (hu : P.underlying T = some (.slice e)) (hz : (P.info? e).map (·.size) = some 1) {k : Nat} (hk : k ≤ n) (kd : IntKind) (z : Int) (hzk : z = (k : Int)) :
    ∃ a2, (∀ wx, (Instr.sliceAt T (.slice a n c) Option.none (some (.int kd z)) Option.none).run P wx = .ok (.slice a2 k c) wx) ∧ (∀ wx, (Instr.slice T (.slice a n c) Option.none (some (.int kd z)) Option.none).run P wx = .ok (.slice a2 k c) wx) ∧
      Sl w a2 k c (xs.take k) ∧ a2 = a := by
  obtain ⟨f, hf, hf1⟩ := Option.map_eq_some_iff.1 hz
  have he : P.elem T = e := by simp [Program.elem, hu]
  have hle := h.le
  subst hzk
  have hrun : ∀ wx, (Instr.slice T (.slice a n c) Option.none (some (.int kd (k : Int))) Option.none).run P wx = .ok (.slice a k c) wx := by
    intro wx
    rw [run_slice_h (P := P) wx T a n c (by rw [he]; exact hu) kd (k : Int) (by omega) (by omega)]
    cases a <;> simp [sizeOf, typeInfo, he, hf, hf1, Result.andThen, sliced, Addr.add_zero']
  refine ⟨a, fun wx => ?_, hrun, ⟨by simp [h.len]; omega, by omega, h.max, fun hn => by have := h.nil hn; omega, fun i hi => ?_⟩, rfl⟩
  · rw [run_sliceAt_slice (P := P) wx T _ _ _ _ (by rw [he]; exact hu)]
    exact hrun wx
  · rw [h.cell i (by omega), List.getElem?_take, if_pos hi]
end Sl

/-- 'string(b)' -/
theorem Sl.str {P : Program} {w : World} {a : Option Addr} {n c : Nat} {b : List UInt8} (h : Sl w a n c (b.map byteV)) (src dst e : TypeId) (hs : P.underlying src = some (.slice e)) (he : P.underlying e = some (.int .u8)) (hd : P.underlying dst = some .string) :
    (convert src dst (.slice a n c)).run P w = .ok (.string ⟨b.toArray⟩) w := by
  have hlen : b.length = n := by simpa using h.len
  cases a with
  | none =>
    obtain ⟨rfl, rfl⟩ := h.nil rfl
    have : b = [] := List.eq_nil_of_length_eq_zero hlen
    subst this
    exact run_convert_bytes_nil w src e hs he 0 0 dst hd
  | some ad =>
    have hl : (loadCells ad n).run P w = .ok ((b.map fun x => (x.toNat : Int)).map (Value.int .u8)).toArray w := by
      have := run_loadCells_list (P := P) w ad ((b.map fun x => (x.toNat : Int)).map (Value.int .u8)) (fun j v hj => by
        have hj' : j < n := by
          have := (List.getElem?_eq_some_iff.1 hj).1
          simp at this; omega
        have := h.cell j hj'
        simp only [Option.getD_some] at this
        rw [this]
        simpa [byteV, Function.comp_def] using hj)
      simpa [hlen] using this
    rw [run_convert_bytes_string w src dst e _ n c hs he hd, run_bytesToString w _ n c _ hl, foldl_push_bytes]
    simp [ByteArray.empty, ByteArray.emptyWithCapacity, Function.comp_def]
    rfl

/-- The same, and it is told that what was not nil is not nil. -/
theorem app_ownS {P : Program} {w : World} {ops : Array Oper} {rest : List Oper} {o : Oper} {ac : Act} {Q : Exit → Act → World → Prop} (hgd : o.guard = none) (s x : Operand) (T : TypeId)
    (ho : o.op = .call { callee := .builtin .append, args := #[s, x], argTypes := #[T, T] })
    (base : Nat) (e : TypeId) (z : Value) (bytes : Nat) (ht : P.underlying T = some (.slice e)) (hinf : (P.info? e).map (fun i => (i.zero, i.size, i.bytes)) = some (some z, 1, bytes)) (hzs : z.cells.size = 1) (hby : 0 < bytes)
    (v : Value) (n : Nat) (xs : List Value) (hs : ac.eval s = v) (hown : w.ownsRow base e 1 v n xs) (hv : v ≠ .slice none 0 0)
    (xa : Option Addr) (m c : Nat) (ys : List Value) (hx : ac.eval x = .slice xa m c) (hsl : Sl w xa m c ys) (h1 : ∀ u ∈ ys, u.oneCell' = true)
    (hbytes : (n + m) * bytes ≤ 140737488355328) (hbase : base ≤ w.heap.size)
    (h : ∀ g c' w', w'.ownsRow base e 1 (.slice (some ⟨g, 0, none⟩) (n + m) c') (n + m) (xs ++ ys) → w.grownBy w' v.ownBlock → base ≤ g → g < w'.heap.size → wpList P ops Q rest (ac.put o.dst (.slice (some ⟨g, 0, none⟩) (n + m) c')) w') : wpList P ops Q (o :: rest) ac w := by
  obtain ⟨i0, hi, hz0, hz1, hz2⟩ := info_parts hinf
  have hle : n + m ≤ maxLen := by
    have := Nat.le_mul_of_pos_right (n + m) hby
    unfold maxLen; omega
  have some_of : ∀ (v' : Value) (w' : World) (k : Nat) (zs : List Value), w'.ownsRow base e 1 v' k zs → v' ≠ .slice none 0 0 → ∃ g c', v' = .slice (some ⟨g, 0, none⟩) k c' ∧ base ≤ g ∧ g < w'.heap.size := by
    intro v' w' k zs ho hne
    rcases ho.2 with ⟨rfl, _⟩ | ⟨g, cap, cur, rfl, hb, hg, _⟩
    · exact absurd rfl hne
    · exact ⟨g, cap, rfl, hb, (Array.getElem?_eq_some_iff.1 hg).1⟩
  cases xa with
  | none =>
    obtain ⟨rfl, rfl⟩ := hsl.nil rfl
    have : ys = [] := List.eq_nil_of_length_eq_zero hsl.len
    subst this
    refine wpList_append_own_none hgd s x T ho base e i0 1 ht hi v n xs hs hown hx ?_
    obtain ⟨g, c', rfl, hb, hg⟩ := some_of v w n xs hown hv
    have := h g c' w
    simp only [Nat.add_zero, List.append_nil] at this
    exact this hown (World.grownBy.refl _ _) hb hg
  | some ad =>
    refine wpList_append_own w hgd s x T ho base e i0 z 1 bytes ht hi hz0 hz1 hz2 hzs (by decide) v n xs hs hown ad m c ys hx (by simp [hsl.len]) ?_ h1 hle hbytes hbase fun v' w' h2 h3 h4 => ?_
    · intro j u hj
      have hjm : j < m := by have := (List.getElem?_eq_some_iff.1 hj).1; have := hsl.len; omega
      exact (hsl.cell j hjm).trans hj
    · obtain ⟨g, c', rfl, hb, hg⟩ := some_of v' w' _ _ h2 (fun hn => hv (h4.1 hn).1)
      exact h g c' w' h2 h3 hb hg

/-- 'append(out, s...)', s a string. -/
theorem app_str {P : Program} {w : World} {ops : Array Oper} {rest : List Oper} {o : Oper} {ac : Act} {Q : Exit → Act → World → Prop} (hgd : o.guard = none) (s x : Operand) (T U : TypeId)
    (ho : o.op = .call { callee := .builtin .append, args := #[s, x], argTypes := #[T, U] })
    (base : Nat) (e : TypeId) (ht : P.underlying T = some (.slice e)) (hu : P.underlying U = some .string) (hinf : (P.info? e).map (fun i => (i.zero, i.size, i.bytes)) = some (some (.int .u8 0), 1, 1))
    (v : Value) (n : Nat) (xs : List Value) (hs : ac.eval s = v) (hown : w.ownsRow base e 1 v n xs) (str : ByteArray) (hx : ac.eval x = .string str)
    (hbytes : n + str.size ≤ 140737488355328) (hbase : base ≤ w.heap.size)
    (h : ∀ v' w', w'.ownsRow base e 1 v' (n + str.size) (xs ++ str.data.toList.map byteV) → w.grownBy w' v.ownBlock → wpList P ops Q rest (ac.put o.dst v') w') : wpList P ops Q (o :: rest) ac w := by
  obtain ⟨i0, hi, hz0, hz1, hz2⟩ := info_parts hinf
  refine wpList_plain hgd fun K hK => ?_
  obtain ⟨v', w', hrun, h1, h2, _⟩ := Lib.run_append_own_string (P := P) w base T U o.type e i0 ht hu hi hz0 hz1 hz2 v n xs hown str (by unfold maxLen; omega) hbytes hbase
  unfold Oper.wp
  simp [execOp, ho, resolve, invoke, builtin, hs, hx, hrun, Result.andThen]
  exact hK _ _ (h v' w' h1 h2)

/-- 's + t' of two strings that are written as lists. -/
theorem run_add_bytes {P : Program} (w : World) (X Y : List UInt8) (h : X.length + Y.length ≤ 9223372036854775807) : (Op.stringOp .add ⟨X.toArray⟩ ⟨Y.toArray⟩).run P w = .ok (.string ⟨(X ++ Y).toArray⟩) w := by
  rw [run_string_add_sum w _ _ (by simpa [ByteArray.size] using h)]
  have e : (⟨X.toArray⟩ : ByteArray) ++ ⟨Y.toArray⟩ = ⟨(X ++ Y).toArray⟩ := by apply ByteArray.ext; simp
  rw [e]

/-! A region that draws its order: number i is taken first (it yields the same in every world that S lets by); a call stands alone; behind it S may say more. -/
section
variable {P : Program} {ops : Array Oper} {Q : Exit → Act → World → Prop} {md : Region.Mode} {S S' : World → Prop}
theorem wpAnyH_more (hS : ∀ w, S' w → S w) : ∀ (fuel : Nat) (listed : Array Bool) (a : Act) (w : World), wpAnyH P md ops Q S' fuel listed a w → wpAnyH P md ops Q S fuel listed a w
  | 0, _, _, _, h => h
  | fuel + 1, _, _, _, h => ⟨h.1, fun i hi => wpOp_mono (fun a' w' h' => ⟨hS _ h'.1, wpAnyH_more hS fuel _ a' w' h'.2⟩) (h.2 i hi)⟩
theorem tk {i : Nat} {oi : Oper} {v : Value} {fuel : Nat} {listed : Array Bool} {a : Act} {w : World} (hi : ops[i]? = some oi)
    (hk : (Region.noSelect ops && Region.free md ops listed i && (Region.ready md ops listed).contains i) = true)
    (hQ : ∀ c a w, Q (.panic c) (a.put oi.dst v) w → Q (.panic c) a w) (hS : S w) (hw : Region.wanted oi (yielded ops a.tmps) = true) (hy : ∀ w, S w → (execOp a.eval oi).run P w = .ok (.value v) w)
    (h : wpAnyH P md ops Q S fuel (listed.setIfInBounds i true) (a.put oi.dst v) w) : wpAnyH P md ops Q S (fuel + 1) listed a w := by
  simp only [Bool.and_eq_true] at hk
  exact wpAnyH_take hi hk.1.1 hk.1.2 hk.2 hQ (.inl ⟨hw, hy⟩) hS h
theorem tkNot {i : Nat} {oi : Oper} {fuel : Nat} {listed : Array Bool} {a : Act} {w : World} (hi : ops[i]? = some oi)
    (hk : (Region.noSelect ops && Region.free md ops listed i && (Region.ready md ops listed).contains i) = true)
    (hQ : ∀ c a w, Q (.panic c) (a.put oi.dst undef) w → Q (.panic c) a w) (hS : S w) (hw : Region.wanted oi (yielded ops a.tmps) = false)
    (h : wpAnyH P md ops Q S fuel (listed.setIfInBounds i true) (a.put oi.dst undef) w) : wpAnyH P md ops Q S (fuel + 1) listed a w := by
  simp only [Bool.and_eq_true] at hk
  exact wpAnyH_take hi hk.1.1 hk.1.2 hk.2 hQ (.inr ⟨hw, rfl⟩) hS h
/-- The one operation that may come up now, carried out in the world at hand; behind it S' (which says no less than S) is kept. -/
theorem alone {i : Nat} {oi : Oper} {fuel : Nat} {listed : Array Bool} {a : Act} {w : World} (hi : ops[i]? = some oi) (hr : Region.ready md ops listed = [i]) (hw : Region.wanted oi (yielded ops a.tmps) = true)
    (h : ∀ K : Act → World → Prop, Shut (∀ (S' : World → Prop) a' w', (∀ w, S' w → S w) → S' w' → (S' w' → wpAnyH P md ops Q S' fuel (listed.setIfInBounds i true) a' w') → K a' w') → Oper.wp P oi a w K Q) :
    wpAnyH P md ops Q S (fuel + 1) listed a w :=
  wpAnyH_ready hr (by simp) (AllReadyH.cons hi (fun K hK => by
    rw [if_pos hw]
    exact h K (fun S' a' w' hS hS' hW => hK.out _ _ (hS _ hS') fun _ => wpAnyH_more hS _ _ _ _ (hW hS'))) AllReadyH.nil)
end

/-- 'append(out, ys...)', out nil or the call's own, ys whatever reads as a list (nil too); elements of one cell. -/
theorem app_own {P : Program} {w : World} {ops : Array Oper} {rest : List Oper} {o : Oper} {ac : Act} {Q : Exit → Act → World → Prop} (hgd : o.guard = none) (s x : Operand) (T : TypeId)
    (ho : o.op = .call { callee := .builtin .append, args := #[s, x], argTypes := #[T, T] })
    (base : Nat) (e : TypeId) (z : Value) (bytes : Nat) (ht : P.underlying T = some (.slice e)) (hinf : (P.info? e).map (fun i => (i.zero, i.size, i.bytes)) = some (some z, 1, bytes)) (hzs : z.cells.size = 1) (hby : 0 < bytes)
    (v : Value) (n : Nat) (xs : List Value) (hs : ac.eval s = v) (hown : w.ownsRow base e 1 v n xs)
    (xa : Option Addr) (m c : Nat) (ys : List Value) (hx : ac.eval x = .slice xa m c) (hsl : Sl w xa m c ys) (h1 : ∀ u ∈ ys, u.oneCell' = true)
    (hbytes : (n + m) * bytes ≤ 140737488355328) (hbase : base ≤ w.heap.size)
    (h : ∀ v' w', w'.ownsRow base e 1 v' (n + m) (xs ++ ys) → w.grownBy w' v.ownBlock → wpList P ops Q rest (ac.put o.dst v') w') : wpList P ops Q (o :: rest) ac w := by
  obtain ⟨i0, hi, hz0, hz1, hz2⟩ := info_parts hinf
  have hle : n + m ≤ maxLen := by
    have := Nat.le_mul_of_pos_right (n + m) hby
    unfold maxLen; omega
  cases xa with
  | none =>
    obtain ⟨rfl, rfl⟩ := hsl.nil rfl
    have : ys = [] := List.eq_nil_of_length_eq_zero hsl.len
    subst this
    refine wpList_append_own_none hgd s x T ho base e i0 1 ht hi v n xs hs hown hx ?_
    have := h v w
    simp only [Nat.add_zero, List.append_nil] at this
    exact this hown (World.grownBy.refl _ _)
  | some ad =>
    refine wpList_append_own w hgd s x T ho base e i0 z 1 bytes ht hi hz0 hz1 hz2 hzs (by decide) v n xs hs hown ad m c ys hx (by simp [hsl.len]) ?_ h1 hle hbytes hbase fun v' w' h2 h3 _ => h v' w' h2 h3
    intro j u hj
    have hjm : j < m := by have := (List.getElem?_eq_some_iff.1 hj).1; have := hsl.len; omega
    exact (hsl.cell j hjm).trans hj

end Go.Proofs.YthbipcjgpocpaaaGreat
