/- Regions that draw their order: a condition on the world that holds until one last operation (number f) has come up. -/
import Derived.Test.YthbipcjgpocpaaaGreatBase
namespace Go.Proofs.YthbipcjgpocpaaaGreat
open Go.RowKit
set_option linter.unusedSimpArgs false
set_option linter.unusedVariables false

section
variable {P : Program} {ops : Array Oper} {Q : Exit → Act → World → Prop} {md : Region.Mode} {S S' : World → Prop} {f : Nat}

/-- Whatever order is picked from here on; S holds as long as number f has not come up. -/
def wpAnyL (P : Program) (md : Region.Mode) (ops : Array Oper) (Q : Exit → Act → World → Prop) (S : World → Prop) (f : Nat) : Nat → Array Bool → Act → World → Prop
  | 0, listed, a, w => Region.ready md ops listed = [] ∧ Q .normal a w
  | fuel + 1, listed, a, w =>
    (Region.ready md ops listed = [] → Q .normal a w) ∧
    ∀ i ∈ Region.ready md ops listed, wpOp P ops Q i (fun a' w' => ((listed.setIfInBounds i true).getD f true = false → S w') ∧ wpAnyL P md ops Q S f fuel (listed.setIfInBounds i true) a' w') a w

theorem wpAny_of_L : ∀ (fuel : Nat) (listed : Array Bool) (a : Act) (w : World), wpAnyL P md ops Q S f fuel listed a w → wpAny P md ops Q fuel listed a w
  | 0, _, _, _, h => h
  | fuel + 1, _, _, _, h => ⟨h.1, fun i hi => wpOp_mono (fun a' w' h' => wpAny_of_L fuel _ a' w' h'.2) (h.2 i hi)⟩
theorem wpAnyL_more (hS : ∀ w, S' w → S w) : ∀ (fuel : Nat) (listed : Array Bool) (a : Act) (w : World), wpAnyL P md ops Q S' f fuel listed a w → wpAnyL P md ops Q S f fuel listed a w
  | 0, _, _, _, h => h
  | fuel + 1, _, _, _, h => ⟨h.1, fun i hi => wpOp_mono (fun a' w' h' => ⟨fun e => hS _ (h'.1 e), wpAnyL_more hS fuel _ a' w' h'.2⟩) (h.2 i hi)⟩

/-- Number f waits for number i. -/
def waits (md : Region.Mode) (ops : Array Oper) (f i : Nat) : Bool := (ops[f]?).any fun o => o.after.any fun e => e.on == i && Region.binds md e

theorem wpAnyL_first {i : Nat} {oi : Oper} {v : Value} (hi : ops[i]? = some oi) (hf : waits md ops f i = true) (hsel : ∀ (j : Nat) (o : Oper) cs b, ops[j]? = some o → o.op ≠ .select cs b)
    (hQ : ∀ c a w, Q (.panic c) (a.put oi.dst v) w → Q (.panic c) a w) :
    ∀ (fuel : Nat) (listed : Array Bool) (a : Act) (w : World),
      (∀ j oj, ops[j]? = some oj → j ≠ i → listed.getD j true = false → (∀ e ∈ oj.after, Region.binds md e = true → e.on ≠ i) → oi.apart ops oj = true) →
      i ∈ Region.ready md ops listed → listed.getD f true = false → YieldsIf P ops S oi v a → S w →
      wpAnyL P md ops Q S f fuel (listed.setIfInBounds i true) (a.put oi.dst v) w → wpAnyL P md ops Q S f (fuel + 1) listed a w := by
  have waiting : ∀ listed : Array Bool, i ∈ Region.ready md ops listed → ∀ j, j ∈ Region.ready md ops listed → j ≠ f := by
    rintro listed hr j hj rfl
    obtain ⟨_, oj, hoj, hall⟩ := mem_ready.1 hj
    have hiun := (mem_ready.1 hr).1
    unfold waits at hf
    rw [hoj, Option.any_some, Array.any_eq_true'] at hf
    obtain ⟨e, he, hb⟩ := hf
    rw [Bool.and_eq_true, beq_iff_eq] at hb
    have h1 := hall e he hb.2
    rw [hb.1] at h1
    rcases Nat.lt_or_ge i listed.size with h' | h'
    · simp [h'] at hiun h1
      rw [hiun] at h1
      simp at h1
    · simp [Array.getElem?_eq_none h'] at h1
  intro fuel
  induction fuel with
  | zero =>
    intro listed a w _ hr _ hy hS H
    refine ⟨fun h => absurd (h ▸ hr) (List.not_mem_nil), fun j hj => ?_⟩
    rcases Decidable.em (j = i) with rfl | hji
    · exact hy.wpOp hi hS ⟨fun _ => hS, H⟩
    · have := ready_mono hj hji
      rw [H.1] at this
      exact absurd this (List.not_mem_nil)
  | succ fuel ih =>
    intro listed a w hfree hr hlf hy hS H
    refine ⟨fun h => absurd (h ▸ hr) (List.not_mem_nil), fun j hj => ?_⟩
    rcases Decidable.em (j = i) with rfl | hji
    · exact hy.wpOp hi hS ⟨fun _ => hS, H⟩
    obtain ⟨hjun, oj, hoj, hall⟩ := mem_ready.1 hj
    have hiun := (mem_ready.1 hr).1
    have hjf := waiting listed hr j hj
    have hif : i ≠ f := waiting listed hr i hr
    have hnot : ∀ e ∈ oj.after, Region.binds md e = true → e.on ≠ i := by
      intro e he hb heq
      have h1 := hall e he hb
      rw [heq] at h1
      rcases Nat.lt_or_ge i listed.size with h' | h'
      · simp [h'] at hiun h1
        rw [hiun] at h1
        simp at h1
      · simp [Array.getElem?_eq_none h'] at h1
    have hstep := wpOp_putIf hoj (hfree j oj hoj hji hjun hnot) (fun cs b => hsel i oi cs b hi) (fun cs b => hsel j oj cs b hoj) hQ hy (H.2 j (ready_mono hj hji))
    have hlf' : (listed.setIfInBounds j true).getD f true = false := by rw [getD_set_ne true hjf]; exact hlf
    refine wpOp_mono (fun a' w' h3 => ?_) hstep
    have hSw : S w' := h3.2.1 (by rw [getD_set_ne true hjf, getD_set_ne true hif]; exact hlf)
    refine ⟨fun _ => hSw, ih (listed.setIfInBounds j true) a' w' (fun k ok hk hki hun hno => ?_) (ready_mono hr (Ne.symm hji)) hlf' h3.1 hSw ?_⟩
    · refine hfree k ok hk hki ?_ hno
      rcases Decidable.em (j = k) with rfl | hjk
      · exact hjun
      · rw [getD_set_ne true hjk] at hun
        exact hun
    · rw [Array.setIfInBounds_comm _ _ hji]
      exact h3.2.2

theorem tkL {i : Nat} {oi : Oper} {v : Value} {fuel : Nat} {listed : Array Bool} {a : Act} {w : World} (hi : ops[i]? = some oi)
    (hk : (Region.noSelect ops && Region.free md ops listed i && (Region.ready md ops listed).contains i && waits md ops f i && !listed.getD f true) = true)
    (hQ : ∀ c a w, Q (.panic c) (a.put oi.dst v) w → Q (.panic c) a w) (hS : S w) (hw : Region.wanted oi (yielded ops a.tmps) = true) (hy : ∀ w, S w → (execOp a.eval oi).run P w = .ok (.value v) w)
    (h : wpAnyL P md ops Q S f fuel (listed.setIfInBounds i true) (a.put oi.dst v) w) : wpAnyL P md ops Q S f (fuel + 1) listed a w := by
  simp only [Bool.and_eq_true, Bool.not_eq_true'] at hk
  exact wpAnyL_first hi hk.1.2 (Region.noSelect_spec hk.1.1.1.1) hQ fuel listed a w (Region.free_spec hi hk.1.1.1.2) (by simpa using hk.1.1.2) hk.2 (.inl ⟨hw, hy⟩) hS h
theorem tkNotL {i : Nat} {oi : Oper} {fuel : Nat} {listed : Array Bool} {a : Act} {w : World} (hi : ops[i]? = some oi)
    (hk : (Region.noSelect ops && Region.free md ops listed i && (Region.ready md ops listed).contains i && waits md ops f i && !listed.getD f true) = true)
    (hQ : ∀ c a w, Q (.panic c) (a.put oi.dst undef) w → Q (.panic c) a w) (hS : S w) (hw : Region.wanted oi (yielded ops a.tmps) = false)
    (h : wpAnyL P md ops Q S f fuel (listed.setIfInBounds i true) (a.put oi.dst undef) w) : wpAnyL P md ops Q S f (fuel + 1) listed a w := by
  simp only [Bool.and_eq_true, Bool.not_eq_true'] at hk
  exact wpAnyL_first hi hk.1.2 (Region.noSelect_spec hk.1.1.1.1) hQ fuel listed a w (Region.free_spec hi hk.1.1.1.2) (by simpa using hk.1.1.2) hk.2 (.inr ⟨hw, rfl⟩) hS h
/-- The one operation that may come up now, carried out in the world at hand. -/
theorem aloneL {i : Nat} {oi : Oper} {fuel : Nat} {listed : Array Bool} {a : Act} {w : World} (hi : ops[i]? = some oi) (hr : Region.ready md ops listed = [i]) (hw : Region.wanted oi (yielded ops a.tmps) = true)
    (h : ∀ K : Act → World → Prop, Shut (∀ (S' : World → Prop) a' w', (∀ w, S' w → S w) → ((listed.setIfInBounds i true).getD f true = false → S' w') → (((listed.setIfInBounds i true).getD f true = false → S' w') → wpAnyL P md ops Q S' f fuel (listed.setIfInBounds i true) a' w') → K a' w') → Oper.wp P oi a w K Q) :
    wpAnyL P md ops Q S f (fuel + 1) listed a w := by
  refine ⟨fun h0 => by rw [hr] at h0; simp at h0, fun j hj => ?_⟩
  rw [hr] at hj
  obtain rfl : j = i := by simpa using hj
  unfold wpOp
  simp only [hi, hw, if_true]
  exact .inl (h _ (fun S' a' w' hS hS' hW => ⟨fun e => hS _ (hS' e), wpAnyL_more hS _ _ _ _ (hW hS')⟩))
/-- Two that may come up now: each first. -/
theorem twoL {i j : Nat} {oi oj : Oper} {fuel : Nat} {listed : Array Bool} {a : Act} {w : World} (hi : ops[i]? = some oi) (hj : ops[j]? = some oj) (hr : Region.ready md ops listed = [i, j]) (hw : Region.wanted oi (yielded ops a.tmps) = true) (hw' : Region.wanted oj (yielded ops a.tmps) = true)
    (h : ∀ K : Act → World → Prop, Shut (∀ (S' : World → Prop) a' w', (∀ w, S' w → S w) → ((listed.setIfInBounds i true).getD f true = false → S' w') → (((listed.setIfInBounds i true).getD f true = false → S' w') → wpAnyL P md ops Q S' f fuel (listed.setIfInBounds i true) a' w') → K a' w') → Oper.wp P oi a w K Q)
    (h' : ∀ K : Act → World → Prop, Shut (∀ (S' : World → Prop) a' w', (∀ w, S' w → S w) → ((listed.setIfInBounds j true).getD f true = false → S' w') → (((listed.setIfInBounds j true).getD f true = false → S' w') → wpAnyL P md ops Q S' f fuel (listed.setIfInBounds j true) a' w') → K a' w') → Oper.wp P oj a w K Q) :
    wpAnyL P md ops Q S f (fuel + 1) listed a w := by
  refine ⟨fun h0 => by rw [hr] at h0; simp at h0, fun k hk => ?_⟩
  rw [hr] at hk
  rcases (show k = i ∨ k = j by simpa using hk) with rfl | rfl
  · unfold wpOp
    simp only [hi, hw, if_true]
    exact .inl (h _ (fun S' a' w' hS hS' hW => ⟨fun e => hS _ (hS' e), wpAnyL_more hS _ _ _ _ (hW hS')⟩))
  · unfold wpOp
    simp only [hj, hw', if_true]
    exact .inl (h' _ (fun S' a' w' hS hS' hW => ⟨fun e => hS _ (hS' e), wpAnyL_more hS _ _ _ _ (hW hS')⟩))
theorem twoH {i j : Nat} {oi oj : Oper} {fuel : Nat} {listed : Array Bool} {a : Act} {w : World} (hi : ops[i]? = some oi) (hj : ops[j]? = some oj) (hr : Region.ready md ops listed = [i, j]) (hw : Region.wanted oi (yielded ops a.tmps) = true) (hw' : Region.wanted oj (yielded ops a.tmps) = true)
    (h : ∀ K : Act → World → Prop, Shut (∀ (S' : World → Prop) a' w', (∀ w, S' w → S w) → S' w' → (S' w' → wpAnyH P md ops Q S' fuel (listed.setIfInBounds i true) a' w') → K a' w') → Oper.wp P oi a w K Q)
    (h' : ∀ K : Act → World → Prop, Shut (∀ (S' : World → Prop) a' w', (∀ w, S' w → S w) → S' w' → (S' w' → wpAnyH P md ops Q S' fuel (listed.setIfInBounds j true) a' w') → K a' w') → Oper.wp P oj a w K Q) :
    wpAnyH P md ops Q S (fuel + 1) listed a w := by
  refine ⟨fun h0 => by rw [hr] at h0; simp at h0, fun k hk => ?_⟩
  rw [hr] at hk
  rcases (show k = i ∨ k = j by simpa using hk) with rfl | rfl
  · unfold wpOp
    simp only [hi, hw, if_true]
    exact .inl (h _ (fun S' a' w' hS hS' hW => ⟨hS _ hS', wpAnyH_more hS _ _ _ _ (hW hS')⟩))
  · unfold wpOp
    simp only [hj, hw', if_true]
    exact .inl (h' _ (fun S' a' w' hS hS' hW => ⟨hS _ hS', wpAnyH_more hS _ _ _ _ (hW hS')⟩))
theorem doneL {listed : Array Bool} {a : Act} {w : World} (hr : Region.ready md ops listed = []) (h : Q .normal a w) : ∀ fuel, wpAnyL P md ops Q S f fuel listed a w
  | 0 => ⟨hr, h⟩
  | _ + 1 => ⟨fun _ => h, fun i hi => by rw [hr] at hi; simp at hi⟩
/-- The beginning. -/
theorem region_L {id : Nat} {a : Act} {w : World} (S : World → Prop) (f : Nat) (hm : P.follows .mixedOrders = true) (hS : S w.drew)
    (h : S w.drew → wpAnyL P .any ops Q S f ops.size (Array.replicate ops.size false) a w.drew) : (Code.region id ops true).wp P Q a w :=
  wp_region_any hm (wpAny_of_L _ _ _ _ (h hS))
end
end Go.Proofs.YthbipcjgpocpaaaGreat
