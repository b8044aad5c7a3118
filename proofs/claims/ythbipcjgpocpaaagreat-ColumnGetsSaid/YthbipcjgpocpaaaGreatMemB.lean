/- Memory words, more: a whole element stored into an owned row; objects by the set of their blocks; a fresh array filled by copy. -/
import Derived.Test.YthbipcjgpocpaaaGreatMem
namespace Go.Proofs.YthbipcjgpocpaaaGreat
open Go.RowKit
set_option linter.unusedSimpArgs false
set_option linter.unusedVariables false

theorem flat_set {k : Nat} : ∀ (xs : List (List Value)), (∀ x ∈ xs, x.length = k) → ∀ (i : Nat) (c : List Value), i < xs.length → c.length = k →
    xs.flatten.take (i * k) ++ c ++ xs.flatten.drop (i * k + k) = (xs.set i c).flatten
  | [], _, i, c, hi, _ => by simp at hi
  | x :: t, h, 0, c, _, hc => by
    have hx := h x (by simp)
    simp [hx]
  | x :: t, h, i + 1, c, hi, hc => by
    have hx := h x (by simp)
    have ih := flat_set t (fun y hy => h y (by simp [hy])) i c (by simpa using hi) hc
    have e1 : (i + 1) * k = x.length + i * k := by rw [Nat.add_mul, hx]; omega
    have e2 : x.length + i * k + k = x.length + (i * k + k) := by omega
    rw [e1, e2, List.flatten_cons, List.take_length_add_append, List.drop_length_add_append, List.append_assoc, List.append_assoc, List.set_cons_succ, List.flatten_cons, ← ih, List.append_assoc]
theorem take_splice (l c : List Value) (p m : Nat) (h : p + c.length ≤ m) (hm : m ≤ l.length) : (l.take p ++ c ++ l.drop (p + c.length)).take m = (l.take m).take p ++ c ++ (l.take m).drop (p + c.length) := by
  apply List.ext_getElem?
  intro j
  by_cases hj : j < m
  · rw [List.getElem?_take, if_pos hj]
    by_cases h1 : j < p
    · rw [List.append_assoc, List.append_assoc, List.getElem?_append_left (by simp; omega), List.getElem?_append_left (by simp; omega), List.getElem?_take, List.getElem?_take, List.getElem?_take, if_pos h1, if_pos h1, if_pos hj]
    · have e1 : (List.take p l).length = p := by simp; omega
      have e2 : (List.take p (List.take m l)).length = p := by simp; omega
      have A : ∀ (u v : List Value), u.length = p → (u ++ v)[j]? = v[j - p]? := fun u v hu => by rw [List.getElem?_append_right (by omega), hu]
      rw [List.append_assoc, List.append_assoc, A _ _ e1, A _ _ e2]
      by_cases h2 : j - p < c.length
      · rw [List.getElem?_append_left h2, List.getElem?_append_left h2]
      · rw [List.getElem?_append_right (Nat.le_of_not_lt h2), List.getElem?_append_right (Nat.le_of_not_lt h2), List.getElem?_drop, List.getElem?_drop, List.getElem?_take, if_pos (by omega)]
  · rw [List.getElem?_eq_none (by simp; omega), List.getElem?_eq_none (by simp; omega)]

/-- A whole element stored into an owned row. -/
theorem wp_storeOwn {P : Program} {w : World} {o : Oper} {ac : Act} {K : Act → World → Prop} {Q : Exit → Act → World → Prop} (ty : TypeId) (x y : Operand) (ho : o.op = .store ty x y)
    (base : Nat) (e : TypeId) (k g n cap : Nat) (xs : List (List Value)) (hown : w.ownsRow base e k (.slice (some ⟨g, 0, none⟩) n cap) n xs.flatten) (hw : ∀ x ∈ xs, x.length = k) (i : Nat) (hi : i < n) (hn : xs.length = n)
    (cells : Array Value) (hk : cells.size = k) (hx : ac.eval x = .pointer (some ((⟨g, 0, none⟩ : Addr).add (i * k)))) (hy : ac.eval y = .agg cells) (hz : (P.info? ty).map (·.size) = some k) (h1 : cells.all (·.oneCell') = true)
    (h : ∀ w', w'.ownsRow base e k (.slice (some ⟨g, 0, none⟩) n cap) n (xs.set i cells.toList).flatten → w'.heap.size = w.heap.size → Keeps (fun k => k = g) w w' → K (ac.put o.dst undef) w') : o.wp P ac w K Q := by
  rcases hown.2 with ⟨h', _⟩ | ⟨g', cap', cur, h', hb, hg, hnc, hcm, hcs, htake⟩
  · simp at h'
  simp only [Value.slice.injEq, Option.some.injEq, Addr.mk.injEq, and_true, true_and] at h'
  obtain ⟨rfl, rfl⟩ := h'
  have hik : i * k + k ≤ n * k := by rw [← Nat.succ_mul]; exact Nat.mul_le_mul_right k hi
  have hnk : n * k ≤ cap * k := Nat.mul_le_mul_right k hnc
  refine wp_storeMid ty x y ho g (i * k) cells (by rw [hx, Addr.add_lit, Nat.zero_add]) hy e cur _ hg (by rw [hz, hk]) (by rw [hk, hcs]; omega) h1 rfl fun w' hw' hsz hkp => h w' ⟨?_, ?_⟩ hsz hkp
  · rw [flat_length (k := k) (xs.set i cells.toList) (fun u hu => by
      rcases List.mem_or_eq_of_mem_set hu with hu | hu
      · exact hw u hu
      · rw [hu]; simpa using hk)]
    simp [hn]
  · refine .inr ⟨g, cap, _, rfl, hb, hw', hnc, hcm, ?_, ?_⟩
    · simp
      omega
    · have hl : cur.toList.length = cap * k := by simpa using hcs
      have hc : cells.toList.length = k := by simpa using hk
      rw [← flat_set xs hw i cells.toList (by omega) hc, ← htake]
      have := take_splice cur.toList cells.toList (i * k) (n * k) (by omega) (by omega)
      rw [hc] at this
      simpa [hk] using this
theorem wpList_storeOwn {P : Program} {ops : Array Oper} {rest : List Oper} {o : Oper} {ac : Act} {w : World} {Q : Exit → Act → World → Prop} (hgd : o.guard = none) (ty : TypeId) (x y : Operand) (ho : o.op = .store ty x y)
    (base : Nat) (e : TypeId) (k g n cap : Nat) (xs : List (List Value)) (hown : w.ownsRow base e k (.slice (some ⟨g, 0, none⟩) n cap) n xs.flatten) (hw : ∀ x ∈ xs, x.length = k) (i : Nat) (hi : i < n) (hn : xs.length = n)
    (cells : Array Value) (hk : cells.size = k) (hx : ac.eval x = .pointer (some ((⟨g, 0, none⟩ : Addr).add (i * k)))) (hy : ac.eval y = .agg cells) (hz : (P.info? ty).map (·.size) = some k) (h1 : cells.all (·.oneCell') = true)
    (h : ∀ w', w'.ownsRow base e k (.slice (some ⟨g, 0, none⟩) n cap) n (xs.set i cells.toList).flatten → w'.heap.size = w.heap.size → Keeps (fun k => k = g) w w' → wpList P ops Q rest (ac.put o.dst undef) w') : wpList P ops Q (o :: rest) ac w :=
  wpList_plain hgd fun _ hK => wp_storeOwn ty x y ho base e k g n cap xs hown hw i hi hn cells hk hx hy hz h1 fun w' a b c => hK _ _ (h w' a b c)

/-- 'make([]T, n)', in a region that draws. -/
theorem wp_make_full {P : Program} {w : World} {o : Oper} {a : Act} {K : Act → World → Prop} {Q : Exit → Act → World → Prop} (l c : Operand) (t : TypeId) (hop : o.op = Op.makeSlice t l c)
    (base : Nat) (e : TypeId) (z : Value) (size bytes : Nat) (h1 : P.underlying t = some (.slice e)) (hinf : (P.info? e).map (fun i => (i.zero, i.size, i.bytes)) = some (some z, size, bytes))
    (kl kc : IntKind) (n : Nat) (hl : a.eval l = .int kl (n : Int)) (hc : a.eval c = .int kc (n : Int)) (b2 : bytes * n ≤ 281474976710656) (b3 : n ≤ maxLen) (b4 : base ≤ w.heap.size)
    (hK : ∀ w', w'.ownsRow base e size (.slice (some ⟨w.heap.size, 0, none⟩) n n) n (madeCells z.cells (n * size)).toList → w.grownBy w' none → K (a.put o.dst (.slice (some ⟨w.heap.size, 0, none⟩) n n)) w') : Oper.wp P o a w K Q := by
  obtain ⟨i0, hi, hz0, hz1, hz2⟩ := info_parts hinf
  obtain ⟨w', hrun, r1, r2⟩ := run_make_full (P := P) w base t e i0 z size h1 hi hz0 hz1 kl kc n (by rw [hz2]; exact b2) b3 b4
  unfold Oper.wp execOp
  simp only [hop, Sem.run_bind, hl, hc, hrun, Result.andThen_ok, Sem.run_pure]
  exact hK w' r1 r2

/-- An act on an object with the blocks F leaves one with the blocks F'. -/
structure Step (F F' : Nat → Prop) (w w' : World) : Prop where
  keeps : Keeps F w w'
  fresh : ∀ i, F' i → F i ∨ w.heap.size ≤ i
namespace Step
variable {F F' F'' G : Nat → Prop} {a b c w w' : World}
theorem refl (F : Nat → Prop) (w : World) : Step F F w w := ⟨Keeps.refl _ _, fun _ h => .inl h⟩
theorem ofNo (k : Keeps No w w') : Step F F w w' := ⟨k.no, fun _ h => .inl h⟩
theorem trans (h : Step F F' a b) (k : Step F' F'' b c) : Step F F'' a c :=
  ⟨h.keeps.trans k.keeps fun i hi hf => by
      rcases h.fresh i hf with h | h
      · exact h
      · omega, fun i hf => by
      rcases k.fresh i hf with h' | h'
      · exact h.fresh i h'
      · exact .inr (Nat.le_trans h.keeps.size h')⟩
theorem transNo (h : Step F F' a b) (k : Keeps No b c) : Step F F' a c := ⟨h.keeps.transNo k, h.fresh⟩
theorem noTrans (k : Keeps No a b) (h : Step F F' b c) : Step F F' a c := ⟨k.noTrans h.keeps fun _ _ h => h, fun i hf => by
  rcases h.fresh i hf with h' | h'
  · exact .inl h'
  · exact .inr (Nat.le_trans k.size h')⟩
/-- What lies apart stays apart. -/
theorem apart (h : Step F F' a b) (hd : ∀ i, F i → ¬ G i) (hl : ∀ i, G i → i < a.heap.size) : ∀ i, F' i → ¬ G i := fun i hf hg => by
  rcases h.fresh i hf with h' | h'
  · exact hd i h' hg
  · have := hl i hg; omega
/-- A new object's blocks. -/
theorem keepsNo (h : Step F F' a b) (hF : ∀ i, F i → a.heap.size ≤ i) : Keeps No a b := h.keeps.mono fun i hi hf => by have := hF i hf; omega
end Step
end Go.Proofs.YthbipcjgpocpaaaGreat
