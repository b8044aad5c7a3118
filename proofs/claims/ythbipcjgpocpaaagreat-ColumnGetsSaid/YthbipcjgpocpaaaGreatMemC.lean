import Derived.Test.YthbipcjgpocpaaaGreatMemB
import Derived.Test.YthbipcjgpocpaaaGreatVal
/- Memory words, more: a part of an owned row; clear; slices of elements of several cells. -/
namespace Go.Proofs.YthbipcjgpocpaaaGreat
open Go.RowKit
set_option linter.unusedSimpArgs false
set_option linter.unusedVariables false
set_option maxRecDepth 100000

theorem ownsRow_take {w : World} {base : Nat} {e : TypeId} {k g n cap : Nat} {xs : List Value} (h : w.ownsRow base e k (.slice (some ⟨g, 0, none⟩) n cap) n xs) (i : Nat) (hi : i ≤ n) : w.ownsRow base e k (.slice (some ⟨g, 0, none⟩) i cap) i (xs.take (i * k)) := by
  rcases h.2 with ⟨h', _⟩ | ⟨g', cap', cur, h', hb, hg, hnc, hcm, hcs, htake⟩
  · simp at h'
  simp only [Value.slice.injEq, Option.some.injEq, Addr.mk.injEq, and_true, true_and] at h'
  obtain ⟨rfl, rfl⟩ := h'
  have hik : i * k ≤ n * k := Nat.mul_le_mul_right k hi
  refine ⟨by rw [List.length_take, h.1]; omega, .inr ⟨g, cap, cur, rfl, hb, hg, by omega, hcm, hcs, ?_⟩⟩
  rw [← htake, List.take_take, Nat.min_eq_left hik]

theorem zeroCells_len (z : Array Value) (n : Nat) : (Builtin.zeroCells z n).size = n * z.size := by simp [Builtin.zeroCells]
theorem zeroCells_one (z : Array Value) (n : Nat) (hz : 0 < z.size) (h1 : ∀ v ∈ z, v.oneCell' = true) : ∀ v ∈ (Builtin.zeroCells z n).toList, v.oneCell' = true := by
  intro v hv
  simp only [Builtin.zeroCells, Array.toList_map, List.mem_map] at hv
  obtain ⟨i, _, rfl⟩ := hv
  have hm : i % z.size < z.size := Nat.mod_lt _ hz
  rw [getElem!_pos z (i % z.size) hm]
  exact h1 _ (Array.getElem_mem hm)
/-- 'clear(s[i:])', s the call's own: what stands ahead of i stays. -/
theorem run_clear_own {P : Program} (w : World) (T e ty : TypeId) (base k g n cap i cs bytes : Nat) (z : Value) (xs : List Value) (ht : P.underlying T = some (.slice e)) (hinf : (P.info? e).map (fun i => (i.zero, i.size, i.bytes)) = some (some z, k, bytes)) (hzs : z.cells.size = k) (hk : 0 < k)
    (h1 : ∀ v ∈ z.cells, v.oneCell' = true) (hown : w.ownsRow base e k (.slice (some ⟨g, 0, none⟩) n cap) n xs) (hi : i ≤ n) :
    ∃ w', (Builtin.clear_ #[T] ty #[.slice (some ⟨g, i * k, none⟩) (n - i) cs]).run P w = .ok (.tuple #[]) w' ∧ w'.ownsRow base e k (.slice (some ⟨g, 0, none⟩) i cap) i (xs.take (i * k)) ∧ w'.heap.size = w.heap.size ∧ Keeps (fun j => j = g) w w' := by
  rcases Nat.eq_or_lt_of_le hi with rfl | hlt
  · refine ⟨w, ?_, ownsRow_take hown i (Nat.le_refl _), rfl, Keeps.refl _ _⟩
    rw [Nat.sub_self]
    simp [Builtin.clear_, run_underlying ht]
  rcases hown.2 with ⟨h', _⟩ | ⟨g', cap', cur, h', hb, hg, hnc, hcm, hcs, htake⟩
  · simp at h'
  simp only [Value.slice.injEq, Option.some.injEq, Addr.mk.injEq, and_true, true_and] at h'
  obtain ⟨rfl, rfl⟩ := h'
  obtain ⟨i0, hi0, hz0, hz1, hz2⟩ := info_parts hinf
  have hik : i * k ≤ n * k := Nat.mul_le_mul_right k hi
  have hnk : n * k ≤ cap * k := Nat.mul_le_mul_right k hnc
  have hlen : (Builtin.zeroCells z.cells (n - i)).toList.length = n * k - i * k := by rw [Array.length_toList, zeroCells_len, hzs, Nat.sub_mul]
  have hst := run_storeCells_at (P := P) g (i * k) e (Builtin.zeroCells z.cells (n - i)).toList 0 cur w hg (by rw [hlen, hcs]; omega) (zeroCells_one z.cells (n - i) (by omega) h1)
  simp only [Nat.add_zero] at hst
  have hz : ∀ w, (zeroValue e).run P w = .ok z w := fun w => by simp [zeroValue, typeInfo, hi0, hz0]
  obtain ⟨q, hq⟩ : ∃ q, n - i = q + 1 := ⟨n - i - 1, by omega⟩
  refine ⟨w.setRow g (cur.toList.take (i * k) ++ (Builtin.zeroCells z.cells (n - i)).toList ++ cur.toList.drop (i * k + (Builtin.zeroCells z.cells (n - i)).toList.length)).toArray, ?_, ⟨by rw [List.length_take, hown.1]; omega, .inr ⟨g, cap, _, rfl, hb, setRow_heap w g cur _ e (0, 0) hg, by omega, hcm, ?_, ?_⟩⟩, by simp, Keeps.setRow w g _⟩
  · rw [hq] at hst ⊢
    simp [Builtin.clear_, run_underlying ht, hz, hst]
  · simp only [List.size_toArray, List.length_append, List.length_take, List.length_drop, hlen, Array.length_toList]
    omega
  · simp only [List.append_assoc]
    rw [List.take_append_of_le_length (by simp; omega), List.take_take, Nat.min_self, ← htake, List.take_take, Nat.min_eq_left hik]
theorem wpList_clear_own {P : Program} {ops : Array Oper} {rest : List Oper} {o : Oper} {ac : Act} {w : World} {Q : Exit → Act → World → Prop} (hgd : o.guard = none) (x : Operand) (T : TypeId)
    (ho : o.op = .call { callee := .builtin .clear, args := #[x], argTypes := #[T] }) (e : TypeId) (base k g n cap i cs bytes : Nat) (z : Value) (xs : List Value) (ht : P.underlying T = some (.slice e)) (hinf : (P.info? e).map (fun i => (i.zero, i.size, i.bytes)) = some (some z, k, bytes)) (hzs : z.cells.size = k) (hk : 0 < k)
    (h1 : ∀ v ∈ z.cells, v.oneCell' = true) (hown : w.ownsRow base e k (.slice (some ⟨g, 0, none⟩) n cap) n xs) (hi : i ≤ n) (hx : ac.eval x = .slice (some ⟨g, i * k, none⟩) (n - i) cs)
    (h : ∀ w', w'.ownsRow base e k (.slice (some ⟨g, 0, none⟩) i cap) i (xs.take (i * k)) → w'.heap.size = w.heap.size → Keeps (fun j => j = g) w w' → wpList P ops Q rest (ac.put o.dst (.tuple #[])) w') : wpList P ops Q (o :: rest) ac w := by
  refine wpList_plain hgd fun K hK => ?_
  obtain ⟨w', hrun, h2, h3, h4⟩ := run_clear_own (P := P) w T e o.type base k g n cap i cs bytes z xs ht hinf hzs hk h1 hown hi
  unfold Oper.wp execOp
  simp only [ho, resolve, invoke, builtin, Sem.run_bind, Sem.run_pure, Result.andThen_ok, List.map_toArray, List.map_cons, List.map_nil, hx, hrun]
  exact hK _ _ (h w' h2 h3 h4)

/-- 's[k:]' of elements of sz cells, k < len. -/
theorem SlK.from_ {P : Program} {w : World} {sz g n c : Nat} {xs : List (List Value)} (h : SlK w sz (some ⟨g, 0, Option.none⟩) n c xs) {T e : TypeId} (hu : P.underlying T = some (.slice e)) (hz : (P.info? e).map (·.size) = some sz) {k : Nat} (hk : k < n) (kd : IntKind) :
    (∀ wx, (Instr.sliceAt T (.slice (some ⟨g, 0, Option.none⟩) n c) (some (.int kd (k : Int))) Option.none Option.none).run P wx = .ok (.slice (some ⟨g, k * sz, Option.none⟩) (n - k) (c - k)) wx) ∧ (∀ wx, (Instr.slice T (.slice (some ⟨g, 0, Option.none⟩) n c) (some (.int kd (k : Int))) Option.none Option.none).run P wx = .ok (.slice (some ⟨g, k * sz, Option.none⟩) (n - k) (c - k)) wx) := by
  obtain ⟨f, hf, hf1⟩ := Option.map_eq_some_iff.1 hz
  have he : P.elem T = e := by simp [Program.elem, hu]
  have hle := h.le
  have hrun : ∀ wx, (Instr.slice T (.slice (some ⟨g, 0, Option.none⟩) n c) (some (.int kd (k : Int))) Option.none Option.none).run P wx = .ok (.slice (some ⟨g, k * sz, Option.none⟩) (n - k) (c - k)) wx := by
    intro wx
    rw [run_slice_l (P := P) wx T _ n c (by rw [he]; exact hu) kd (k : Int) (by omega) (by omega)]
    have h1 : ¬ c = k := by omega
    simp [sizeOf, typeInfo, he, hf, hf1, Result.andThen, sliced, h1, Addr.add]
    intro h; exact h.symm
  refine ⟨fun wx => ?_, hrun⟩
  rw [run_sliceAt_slice (P := P) wx T _ _ _ _ (by rw [he]; exact hu)]
  exact hrun wx
/-- 's[:k]' of elements of sz cells. -/
theorem SlK.upto {P : Program} {w : World} {sz g n c : Nat} {xs : List (List Value)} (h : SlK w sz (some ⟨g, 0, Option.none⟩) n c xs) {T e : TypeId} (hu : P.underlying T = some (.slice e)) (hz : (P.info? e).map (·.size) = some sz) {k : Nat} (hk : k ≤ n) (kd : IntKind) :
    (∀ wx, (Instr.sliceAt T (.slice (some ⟨g, 0, Option.none⟩) n c) Option.none (some (.int kd (k : Int))) Option.none).run P wx = .ok (.slice (some ⟨g, 0, Option.none⟩) k c) wx) ∧ (∀ wx, (Instr.slice T (.slice (some ⟨g, 0, Option.none⟩) n c) Option.none (some (.int kd (k : Int))) Option.none).run P wx = .ok (.slice (some ⟨g, 0, Option.none⟩) k c) wx) := by
  obtain ⟨f, hf, hf1⟩ := Option.map_eq_some_iff.1 hz
  have he : P.elem T = e := by simp [Program.elem, hu]
  have hle := h.le
  have hrun : ∀ wx, (Instr.slice T (.slice (some ⟨g, 0, Option.none⟩) n c) Option.none (some (.int kd (k : Int))) Option.none).run P wx = .ok (.slice (some ⟨g, 0, Option.none⟩) k c) wx := by
    intro wx
    rw [run_slice_h (P := P) wx T _ n c (by rw [he]; exact hu) kd (k : Int) (by omega) (by omega)]
    simp [sizeOf, typeInfo, he, hf, hf1, Result.andThen, sliced, Addr.add_zero']
  refine ⟨fun wx => ?_, hrun⟩
  rw [run_sliceAt_slice (P := P) wx T _ _ _ _ (by rw [he]; exact hu)]
  exact hrun wx
end Go.Proofs.YthbipcjgpocpaaaGreat
/- Slices of values: words that the walks share. -/
namespace Go.Proofs.YthbipcjgpocpaaaGreat
open Go.RowKit
set_option linter.unusedSimpArgs false
set_option linter.unusedVariables false

theorem SlK.lit (w : World) (arr : Array Value) (t : TypeId) {k : Nat} (xs : List (List Value)) (h : arr.toList = xs.flatten) (hw : ∀ x ∈ xs, x.length = k) (n : Nat) (hn : xs.length = n) (hm : n ≤ maxLen) : SlK (w.alloc (.cells arr t)) k (some ⟨w.heap.size, 0, Option.none⟩) n n xs := by
  refine ⟨hn, Nat.le_refl _, hm, fun h => by simp at h, hw, fun i hi j hj => ?_⟩
  have : (w.alloc (.cells arr t)).heap[w.heap.size]? = some (.cells arr t (0, 0)) := heap_alloc_new w _
  show (w.alloc (.cells arr t)).cell? ((⟨w.heap.size, 0, Option.none⟩ : Addr).add _) = _
  rw [Addr.add_lit, Nat.zero_add, cell_of_row _ w.heap.size _ _ t (0, 0) this, ← flat_at xs hw i j hj, ← h]
  simp
theorem Va.cells_len (v : Va) : v.cells.length = 4 := rfl
theorem vals_wide (l : List Va) : ∀ x ∈ l.map Va.cells, x.length = 4 := by
  intro x hx; obtain ⟨v, _, rfl⟩ := List.mem_map.1 hx; rfl
theorem val_info : (Tryz.prog.info? 32).map (fun i => (i.zero, i.size, i.bytes)) = some (some (.agg #[.int .i64 0, .int .i64 0, .string ByteArray.empty, .int .u64 0]), 4, 40) := by kernel_rfl
theorem vals_one (l : List Va) : ∀ u ∈ (l.map Va.cells).flatten, u.oneCell' = true := by
  intro u hu
  obtain ⟨x, hx, hu⟩ := List.mem_flatten.1 hu
  obtain ⟨v, _, rfl⟩ := List.mem_map.1 hx
  simp [Va.cells] at hu
  rcases hu with rfl | rfl | rfl | rfl <;> rfl
theorem owns_lit0K (w : World) (base : Nat) (e : TypeId) {k : Nat} (hb : base ≤ w.heap.size) : (w.alloc (.cells #[] e)).ownsRow base e k (.slice (some ⟨w.heap.size, 0, none⟩) 0 0) 0 [] :=
  World.ownsRow_made w #[] 0 hb (Nat.zero_le _) (by simp)
theorem row4 {x y z u : Value} {g : Nat} {t : TypeId} {wx : World} (hb : wx.heap[g]? = some (.cells #[x, y, z, u] t (0, 0))) : wx.cell? ⟨g, 0, none⟩ = some x ∧ wx.cell? ⟨g, 1, none⟩ = some y ∧ wx.cell? ⟨g, 2, none⟩ = some z ∧ wx.cell? ⟨g, 3, none⟩ = some u :=
  ⟨cell_of_row wx _ 0 _ _ (0, 0) hb, cell_of_row wx _ 1 _ _ (0, 0) hb, cell_of_row wx _ 2 _ _ (0, 0) hb, cell_of_row wx _ 3 _ _ (0, 0) hb⟩
end Go.Proofs.YthbipcjgpocpaaaGreat
