/- Memory words for elements of several cells: loads, rows, appends; a map of truths. -/
import Derived.Test.YthbipcjgpocpaaaGreatWide
import Derived.Test.YthbipcjgpocpaaaGreatNum
import Derived.Maps.AppendAt
import Derived.Maps.OwnOps
import Derived.Maps.Views
import Derived.DeepKeys4
import Derived.Laws.OwnMore
import Derived.OwnWalk
import Derived.Laws.Rows
import Derived.Laws.Tables
import Derived.Laws.CopyRow
namespace Go.Proofs.YthbipcjgpocpaaaGreat
open Go.RowKit
set_option linter.unusedSimpArgs false
set_option linter.unusedVariables false

/-- A load of a struct (or array) whose cells are known. -/
theorem load_cells {P : Program} {w : World} {ty : TypeId} {d : TypeDesc} {k : Nat} (hu : P.underlying ty = some d) (hd : (match d with | .struct _ | .array _ _ => true | _ => false) = true) (hz : (P.info? ty).map (·.size) = some k)
    (p : Addr) (vs : List Value) (hk : vs.length = k) (hv : ∀ j v, vs[j]? = some v → w.cell? (p.add j) = some v) :
    (Instr.loadAt ty (.pointer (some p))).run P w = .ok (.agg vs.toArray) w ∧ (loadVar ty p).run P w = .ok (.agg vs.toArray) w := by
  have hl : (loadCells p vs.length).run P w = .ok vs.toArray w := run_loadCells_list (P := P) w _ vs hv
  rw [hk] at hl
  cases hq : P.info? ty with
  | none => simp [hq] at hz
  | some f =>
    have hs : f.size = k := by simpa [hq] using hz
    have hagg : (isAgg ty).run P w = .ok true w := by
      unfold isAgg
      rw [Sem.run_bind, run_underlying hu w]
      cases d <;> simp_all
    have hv : (loadVar ty p).run P w = .ok (.agg vs.toArray) w := by
      simp [loadVar, Sem.run_bind, hagg, sizeOf, typeInfo, hq, hs, hl]
    refine ⟨?_, hv⟩
    simp only [Instr.loadAt, Instr.sureAddr, Sem.run_bind, Sem.run_pure, Result.andThen_ok, hv]

theorem flat_at {k : Nat} : ∀ (xs : List (List Value)), (∀ x ∈ xs, x.length = k) → ∀ i j, j < k → xs.flatten[i * k + j]? = (xs[i]?).bind (·[j]?)
  | [], _, i, j, _ => by simp
  | x :: t, h, 0, j, hj => by
    have hx := h x (by simp)
    rw [Nat.zero_mul, Nat.zero_add, List.flatten_cons, List.getElem?_append_left (by omega)]
    rfl
  | x :: t, h, i + 1, j, hj => by
    have hx := h x (by simp)
    rw [List.flatten_cons, List.getElem?_append_right (by rw [hx, Nat.add_mul]; omega), hx]
    have : (i + 1) * k + j - k = i * k + j := by rw [Nat.add_mul]; omega
    rw [this, flat_at t (fun y hy => h y (by simp [hy])) i j hj]
    rfl
theorem flat_length {k : Nat} (xs : List (List Value)) (h : ∀ x ∈ xs, x.length = k) : xs.flatten.length = xs.length * k := by
  induction xs with
  | nil => simp
  | cons x t ih => rw [List.flatten_cons, List.length_append, ih (fun y hy => h y (by simp [hy])), h x (by simp), List.length_cons, Nat.add_mul]; omega

theorem own_zero {w : World} {base : Nat} {e : TypeId} {size : Nat} {v : Value} {n : Nat} {xs : List Value} (h : w.ownsRow base e size v n xs) : w.ownsRow 0 e size v n xs := by
  refine ⟨h.1, ?_⟩
  rcases h.2 with hn | ⟨g, cap, cur, rfl, hb, rest⟩
  · exact .inl hn
  · exact .inr ⟨g, cap, cur, rfl, Nat.zero_le _, rest⟩

/-- '==' of two strings, as the walk spells it. -/
theorem str_eq (X Y : List UInt8) : ((⟨X.toArray⟩ : ByteArray).toList == (⟨Y.toArray⟩ : ByteArray).toList) = decide (X = Y) := by
  rw [ByteArray.toList_eq, ByteArray.toList_eq]
  simp
  by_cases h : X = Y <;> simp [h]
theorem own_le {w : World} {base base' : Nat} {e : TypeId} {size : Nat} {v : Value} {n : Nat} {xs : List Value} (h : w.ownsRow base e size v n xs) (hb : base' ≤ base) : w.ownsRow base' e size v n xs := by
  refine ⟨h.1, ?_⟩
  rcases h.2 with hn | ⟨g, cap, cur, rfl, hb', rest⟩
  · exact .inl hn
  · exact .inr ⟨g, cap, cur, rfl, Nat.le_trans hb hb', rest⟩
theorem own_keepB {w w' : World} {base : Nat} {e : TypeId} {size g n c k : Nat} {xs : List Value} {S : Nat → Prop} (h : w.ownsRow base e size (.slice (some ⟨g, 0, none⟩) n c) k xs) (hk : Keeps S w w') (hg : ¬ S g) : w'.ownsRow base e size (.slice (some ⟨g, 0, none⟩) n c) k xs :=
  hk.own h (fun i hi hs => by
    have : g = i := by injection hi
    subst this
    exact hg hs)
theorem SlK.ofOwn {w : World} {base : Nat} {e : TypeId} {v : Value} {n k : Nat} {xs : List (List Value)} (hk : 0 < k) (hw : ∀ x ∈ xs, x.length = k) (h : w.ownsRow base e k v n xs.flatten) :
    ∃ a c, v = .slice a n c ∧ SlK w k a n c xs ∧ (∀ x, a = some x → ∃ g, x = ⟨g, 0, Option.none⟩ ∧ base ≤ g ∧ g < w.heap.size) := by
  have hlen : xs.length = n := by
    have h1 := h.1
    rw [flat_length xs hw] at h1
    exact Nat.eq_of_mul_eq_mul_right hk h1
  rcases h.2 with ⟨rfl, hnil⟩ | ⟨g, cap, cur, rfl, hbase, hgg, hle, hmax, hsz, htake⟩
  · have h1 := h.1
    rw [hnil] at h1
    have hn : n = 0 := by
      rcases Nat.eq_zero_or_pos n with h0 | h0
      · exact h0
      · have := Nat.mul_pos h0 hk; simp at h1; omega
    subst hn
    have : xs = [] := List.eq_nil_of_length_eq_zero hlen
    subst this
    exact ⟨_, _, rfl, SlK.none w k, fun _ h => by simp at h⟩
  · refine ⟨_, _, rfl, ⟨hlen, hle, hmax, fun h => by simp at h, hw, fun i hi j hj => ?_⟩, fun b h => by cases h; exact ⟨g, rfl, hbase, (Array.getElem?_eq_some_iff.1 hgg).1⟩⟩
    have hil : i < xs.length := by omega
    have hx := hw (xs[i]) (List.getElem_mem hil)
    have hj' : j < (xs[i]).length := by omega
    have hat := flat_at xs hw i j hj
    rw [List.getElem?_eq_getElem hil, Option.bind_some, List.getElem?_eq_getElem hj'] at hat
    rw [List.getElem?_eq_getElem hil, Option.bind_some, List.getElem?_eq_getElem hj']
    exact h.cells (g := g) rfl (i * k + j) _ hat

/-- One struct of k cells, written out as a slice. -/
theorem SlK.one (w : World) (cs : List Value) (t : TypeId) {k : Nat} (h : cs.length = k) : SlK (w.alloc (.cells cs.toArray t)) k (some ⟨w.heap.size, 0, Option.none⟩) 1 1 [cs] := by
  refine ⟨rfl, Nat.le_refl _, by unfold maxLen; omega, fun h => by simp at h, fun u hu => by simp at hu; subst hu; exact h, fun i hi j hj => ?_⟩
  obtain rfl : i = 0 := by omega
  have : (w.alloc (.cells cs.toArray t)).heap[w.heap.size]? = some (.cells cs.toArray t) := heap_alloc_new w _
  show (w.alloc (.cells cs.toArray t)).cell? ((⟨w.heap.size, 0, Option.none⟩ : Addr).add _) = _
  rw [Addr.add_lit, cell_of_row _ w.heap.size _ _ t (0, 0) this]
  simp

/-- 'append(out, ys...)' on elements of k cells; out nil or the call's own: what the operation leaves. -/
theorem run_app_ownK {P : Program} (w : World) (T ty : TypeId)
    (base : Nat) (e : TypeId) (z : Value) (k bytes : Nat) (ht : P.underlying T = some (.slice e)) (hinf : (P.info? e).map (fun i => (i.zero, i.size, i.bytes)) = some (some z, k, bytes)) (hzs : z.cells.size = k) (hk : 0 < k) (hby : 0 < bytes)
    (v : Value) (n : Nat) (xs : List Value) (hown : w.ownsRow base e k v n xs)
    (xa : Option Addr) (m c : Nat) (yss : List (List Value)) (hsl : SlK w k xa m c yss) (h1 : ∀ u ∈ yss.flatten, u.oneCell' = true)
    (hbytes : (n + m) * bytes ≤ 140737488355328) (hbase : base ≤ w.heap.size) :
    ∃ v' w', (Builtin.append_ #[T, T] ty #[v, .slice xa m c]).run P w = .ok v' w' ∧ w'.ownsRow base e k v' (n + m) (xs ++ yss.flatten) ∧ w.grownBy w' v.ownBlock ∧ (∀ g, v'.ownBlock = some g → v.ownBlock = some g ∨ g = w.heap.size) := by
  obtain ⟨i0, hi, hz0, hz1, hz2⟩ := info_parts hinf
  have hle : n + m ≤ maxLen := by
    have := Nat.le_mul_of_pos_right (n + m) hby
    unfold maxLen; omega
  cases xa with
  | none =>
    obtain ⟨rfl, rfl⟩ := hsl.nil rfl
    have : yss = [] := List.eq_nil_of_length_eq_zero hsl.len
    subst this
    refine ⟨v, w, ?_, by simpa using hown, World.grownBy.refl _ _, fun g hg => .inl hg⟩
    rcases hown.2 with ⟨rfl, rfl⟩ | ⟨g, cap, cur, rfl, _, _, hnc, _⟩
    · simp [Builtin.append_, run_underlying ht, sizeOf, typeInfo, hi, Builtin.lenOf, Builtin.firstCells]
    · simp [Builtin.append_, run_underlying ht, sizeOf, typeInfo, hi, Builtin.lenOf, Builtin.firstCells, hnc, storeCells]
  | some ad =>
    have hlen : yss.flatten.length = m * k := by rw [flat_length yss hsl.wide, hsl.len]
    have hcells : ∀ j u, yss.flatten[j]? = some u → w.cell? (ad.add j) = some u := by
      intro j u hj
      have hjl := (List.getElem?_eq_some_iff.1 hj).1
      rw [hlen] at hjl
      have hd : j = j / k * k + j % k := by rw [Nat.mul_comm]; exact (Nat.div_add_mod j k).symm
      have hm : j % k < k := Nat.mod_lt _ hk
      have hi : j / k < m := Nat.div_lt_of_lt_mul (by rw [Nat.mul_comm]; exact hjl)
      rw [hd, flat_at yss hsl.wide _ _ hm] at hj
      have := hsl.cell (j / k) hi (j % k) hm
      rw [Option.getD_some, ← hd] at this
      rw [this, hj]
    obtain ⟨v', w', hrun, h2, h3, _, h5⟩ := run_append_own_at (P := P) w base T ty e i0 z k bytes ht hi hz0 hz1 hz2 hzs hk v n xs hown ad m c yss.flatten hlen hcells h1 hle hbytes hbase
    refine ⟨v', w', hrun, h2, h3, fun g hg => ?_⟩
    rcases h5 with h5 | h5
    · exact .inl (h5 ▸ hg)
    · rw [h5] at hg; exact .inr (by injection hg with hg; exact hg.symm)

/-- .. at the operation, in a region that draws. -/
theorem wp_app_ownK {P : Program} {w : World} {o : Oper} {ac : Act} {K : Act → World → Prop} {Q : Exit → Act → World → Prop} (s x : Operand) (T : TypeId)
    (ho : o.op = .call { callee := .builtin .append, args := #[s, x], argTypes := #[T, T] })
    (base : Nat) (e : TypeId) (z : Value) (k bytes : Nat) (ht : P.underlying T = some (.slice e)) (hinf : (P.info? e).map (fun i => (i.zero, i.size, i.bytes)) = some (some z, k, bytes)) (hzs : z.cells.size = k) (hk : 0 < k) (hby : 0 < bytes)
    (v : Value) (n : Nat) (xs : List Value) (hs : ac.eval s = v) (hown : w.ownsRow base e k v n xs)
    (xa : Option Addr) (m c : Nat) (yss : List (List Value)) (hx : ac.eval x = .slice xa m c) (hsl : SlK w k xa m c yss) (h1 : ∀ u ∈ yss.flatten, u.oneCell' = true)
    (hbytes : (n + m) * bytes ≤ 140737488355328) (hbase : base ≤ w.heap.size)
    (h : ∀ v' w', w'.ownsRow base e k v' (n + m) (xs ++ yss.flatten) → w.grownBy w' v.ownBlock → (∀ g, v'.ownBlock = some g → v.ownBlock = some g ∨ g = w.heap.size) → K (ac.put o.dst v') w') : Oper.wp P o ac w K Q := by
  obtain ⟨v', w', hrun, h2, h3, h4⟩ := run_app_ownK (P := P) w T o.type base e z k bytes ht hinf hzs hk hby v n xs hown xa m c yss hsl h1 hbytes hbase
  unfold Oper.wp execOp
  simp only [ho, resolve, invoke, builtin, Sem.run_bind, Sem.run_pure, Result.andThen_ok, List.map_toArray, List.map_cons, List.map_nil, hs, hx, hrun]
  exact h v' w' h2 h3 h4

/-- .. in a plain walk. -/
theorem app_ownK {P : Program} {w : World} {ops : Array Oper} {rest : List Oper} {o : Oper} {ac : Act} {Q : Exit → Act → World → Prop} (hgd : o.guard = none) (s x : Operand) (T : TypeId)
    (ho : o.op = .call { callee := .builtin .append, args := #[s, x], argTypes := #[T, T] })
    (base : Nat) (e : TypeId) (z : Value) (k bytes : Nat) (ht : P.underlying T = some (.slice e)) (hinf : (P.info? e).map (fun i => (i.zero, i.size, i.bytes)) = some (some z, k, bytes)) (hzs : z.cells.size = k) (hk : 0 < k) (hby : 0 < bytes)
    (v : Value) (n : Nat) (xs : List Value) (hs : ac.eval s = v) (hown : w.ownsRow base e k v n xs)
    (xa : Option Addr) (m c : Nat) (yss : List (List Value)) (hx : ac.eval x = .slice xa m c) (hsl : SlK w k xa m c yss) (h1 : ∀ u ∈ yss.flatten, u.oneCell' = true)
    (hbytes : (n + m) * bytes ≤ 140737488355328) (hbase : base ≤ w.heap.size)
    (h : ∀ v' w', w'.ownsRow base e k v' (n + m) (xs ++ yss.flatten) → w.grownBy w' v.ownBlock → (∀ g, v'.ownBlock = some g → v.ownBlock = some g ∨ g = w.heap.size) → wpList P ops Q rest (ac.put o.dst v') w') : wpList P ops Q (o :: rest) ac w :=
  wpList_plain hgd fun K hK => wp_app_ownK s x T ho base e z k bytes ht hinf hzs hk hby v n xs hs hown xa m c yss hx hsl h1 hbytes hbase fun v' w' h2 h3 h4 => hK _ _ (h v' w' h2 h3 h4)
/-- A load whose outcome is laid ahead, in a region that draws. -/
theorem wp_loadV {P : Program} {w : World} {o : Oper} {ac : Act} {K : Act → World → Prop} {Q : Exit → Act → World → Prop} (ty : TypeId) (x : Operand) (ho : o.op = .load ty x)
    (p : Addr) (hx : ac.eval x = .pointer (some p)) (v : Value) (hv : (Instr.loadAt ty (.pointer (some p))).run P w = .ok v w) (h : K (ac.put o.dst v) w) : Oper.wp P o ac w K Q := by
  unfold Oper.wp execOp
  simp only [ho, hx, Sem.run_bind, hv, Result.andThen_ok, Sem.run_pure]
  exact h

/-- A whole struct stored into a variable that fills its block. -/
theorem Keeps.setRow (w : World) (g : Nat) (cs : Array Value) : Keeps (fun k => k = g) w (w.setRow g cs) := ⟨rfl, rfl, rfl, by simp, fun k _ hk => setRow_other w g k cs hk⟩
theorem wp_storeRow {P : Program} {w : World} {o : Oper} {ac : Act} {K : Act → World → Prop} {Q : Exit → Act → World → Prop} (ty : TypeId) (x y : Operand) (ho : o.op = .store ty x y)
    (g : Nat) (cells : Array Value) (hx : ac.eval x = .pointer (some ⟨g, 0, none⟩)) (hy : ac.eval y = .agg cells)
    (t : TypeId) (old : Array Value) (hg : w.heap[g]? = some (.cells old t (0, 0))) (hi : (P.info? ty).map (·.size) = some cells.size)
    (hold : old.size = cells.size) (h1 : cells.all (·.oneCell') = true)
    (h : ∀ w', w'.heap[g]? = some (.cells cells t (0, 0)) → w'.heap.size = w.heap.size → Keeps (fun k => k = g) w w' → K (ac.put o.dst undef) w') : o.wp P ac w K Q :=
  wp_store_row ty x y ho g cells hx hy t old hg hi hold h1 (h _ (setRow_heap w g old cells t (0, 0) hg) (by simp) (Keeps.setRow w g cells))
theorem wpList_storeRow {P : Program} {ops : Array Oper} {rest : List Oper} {o : Oper} {ac : Act} {w : World} {Q : Exit → Act → World → Prop} (hgd : o.guard = none) (ty : TypeId) (x y : Operand) (ho : o.op = .store ty x y)
    (g : Nat) (cells : Array Value) (hx : ac.eval x = .pointer (some ⟨g, 0, none⟩)) (hy : ac.eval y = .agg cells)
    (t : TypeId) (old : Array Value) (hg : w.heap[g]? = some (.cells old t (0, 0))) (hi : (P.info? ty).map (·.size) = some cells.size)
    (hold : old.size = cells.size) (h1 : cells.all (·.oneCell') = true)
    (h : ∀ w', w'.heap[g]? = some (.cells cells t (0, 0)) → w'.heap.size = w.heap.size → Keeps (fun k => k = g) w w' → wpList P ops Q rest (ac.put o.dst undef) w') : wpList P ops Q (o :: rest) ac w :=
  wpList_plain hgd fun _ hK => wp_storeRow ty x y ho g cells hx hy t old hg hi hold h1 fun w' a b c => hK _ _ (h w' a b c)

/-- A whole struct stored into the midst of a block. -/
theorem wp_storeMid {P : Program} {w : World} {o : Oper} {ac : Act} {K : Act → World → Prop} {Q : Exit → Act → World → Prop} (ty : TypeId) (x y : Operand) (ho : o.op = .store ty x y)
    (g p : Nat) (cells : Array Value) (hx : ac.eval x = .pointer (some ⟨g, p, none⟩)) (hy : ac.eval y = .agg cells)
    (t : TypeId) (old new : Array Value) (hg : w.heap[g]? = some (.cells old t (0, 0))) (hi : (P.info? ty).map (·.size) = some cells.size)
    (hold : p + cells.size ≤ old.size) (h1 : cells.all (·.oneCell') = true) (hn : new = (old.toList.take p ++ cells.toList ++ old.toList.drop (p + cells.size)).toArray)
    (h : ∀ w', w'.heap[g]? = some (.cells new t (0, 0)) → w'.heap.size = w.heap.size → Keeps (fun k => k = g) w w' → K (ac.put o.dst undef) w') : o.wp P ac w K Q := by
  subst hn
  have hrun := run_storeCells_at (P := P) g p t cells.toList 0 old w hg (by simpa using hold) (fun v hv => (Array.all_eq_true_iff_forall_mem.1 h1) v (by simpa using hv))
  simp only [Nat.add_zero, Array.length_toList] at hrun
  have hst : (storeVar ty ⟨g, p, none⟩ (.agg cells)).run P w = .ok () (w.setRow g (old.toList.take p ++ cells.toList ++ old.toList.drop (p + cells.size)).toArray) := by
    cases hq : P.info? ty with
    | none => simp [hq] at hi
    | some i =>
      have hs : cells.size = i.size := by simp [hq] at hi; omega
      simp [storeVar, sizeOf, typeInfo, hq, Value.cells, hs]
      rw [← hs]
      simpa using hrun
  unfold Oper.wp execOp
  simp only [ho, hx, hy, Instr.storeAt, Instr.sureAddr, Sem.run_bind, Sem.run_pure, Result.andThen_ok, hst]
  exact h _ (setRow_heap w g old _ t (0, 0) hg) (by simp) (Keeps.setRow w g _)
end Go.Proofs.YthbipcjgpocpaaaGreat
