/- Lists of texts and what stands for them, in plain Lean. -/
import Derived.Test.YthbipcjgpocpaaaGreatBitsG
import Derived.Test.YthbipcjgpocpaaaGreatPlainRuns
import Derived.Lib.SlicesCompact
namespace Go.Proofs.YthbipcjgpocpaaaGreat
open Go.RowKit
set_option linter.unusedSimpArgs false
set_option linter.unusedVariables false
set_option maxRecDepth 100000

abbrev Tx := List UInt8
def insW (s : Tx) : List Tx → List Tx
  | [] => [s]
  | x :: t => if x < s then x :: insW s t else if x = s then x :: t else s :: x :: t
def wordsL (L : List Tx) : List Tx := L.foldl (fun W s => insW s W) []
abbrev Ris (W : List Tx) : Prop := W.Pairwise (· < ·)

theorem tx_irr (a : Tx) : ¬ a < a := List.lt_irrefl a
theorem tx_tri (a b : Tx) : a < b ∨ a = b ∨ b < a := by
  rcases Decidable.em (a < b) with h | h
  · exact .inl h
  · rcases Decidable.em (b < a) with h' | h'
    · exact .inr (.inr h')
    · exact .inr (.inl (List.le_antisymm (List.not_lt.1 h') (List.not_lt.1 h)))
theorem insW_mem (s : Tx) (W : List Tx) (x : Tx) : x ∈ insW s W ↔ x = s ∨ x ∈ W := by
  induction W with
  | nil => simp [insW]
  | cons y t ih =>
    unfold insW
    split
    · simp [ih]; constructor <;> (rintro (h | h | h) <;> simp [h])
    · split
      · rename_i h1 h2; subst h2; simp
      · simp
theorem insW_ris (s : Tx) (W : List Tx) (h : Ris W) : Ris (insW s W) := by
  induction W with
  | nil => simp [insW]
  | cons y t ih =>
    obtain ⟨h1, h2⟩ := List.pairwise_cons.1 h
    unfold insW
    split
    · rename_i hy
      refine List.pairwise_cons.2 ⟨fun z hz => ?_, ih h2⟩
      rcases (insW_mem s t z).1 hz with rfl | hz
      · exact hy
      · exact h1 z hz
    · split
      · exact h
      · rename_i h3 h4
        have hs : s < y := (tx_tri s y).elim id (fun h => h.elim (fun h => absurd h.symm h4) (fun h => absurd h h3))
        refine List.pairwise_cons.2 ⟨fun z hz => ?_, h⟩
        rcases List.mem_cons.1 hz with rfl | hz
        · exact hs
        · exact List.lt_trans hs (h1 z hz)
theorem foldW_ris (L : List Tx) (W : List Tx) (h : Ris W) : Ris (L.foldl (fun W s => insW s W) W) := by
  induction L generalizing W with
  | nil => exact h
  | cons s t ih => exact ih _ (insW_ris s W h)
theorem foldW_mem (L : List Tx) (W : List Tx) (x : Tx) : x ∈ L.foldl (fun W s => insW s W) W ↔ x ∈ L ∨ x ∈ W := by
  induction L generalizing W with
  | nil => simp
  | cons s t ih =>
    show x ∈ t.foldl _ (insW s W) ↔ _
    rw [ih, insW_mem]
    simp
    constructor
    · rintro (h | h | h) <;> simp [h]
    · rintro ((h | h) | h) <;> simp [h]
theorem wordsL_ris (L : List Tx) : Ris (wordsL L) := foldW_ris L [] List.Pairwise.nil
theorem wordsL_mem (L : List Tx) (x : Tx) : x ∈ wordsL L ↔ x ∈ L := by unfold wordsL; rw [foldW_mem]; simp
/-- Two rising lists of the same texts are one. -/
theorem ris_eq : ∀ (A B : List Tx), Ris A → Ris B → (∀ x, x ∈ A ↔ x ∈ B) → A = B
  | [], [], _, _, _ => rfl
  | [], b :: B, _, _, h => by have := (h b).2 (by simp); simp at this
  | a :: A, [], _, _, h => by have := (h a).1 (by simp); simp at this
  | a :: A, b :: B, hA, hB, h => by
    obtain ⟨a1, a2⟩ := List.pairwise_cons.1 hA
    obtain ⟨b1, b2⟩ := List.pairwise_cons.1 hB
    have hab : a = b := by
      have h1 := (h a).1 (by simp)
      have h2 := (h b).2 (by simp)
      rcases List.mem_cons.1 h1 with e | h1
      · exact e
      · rcases List.mem_cons.1 h2 with e | h2
        · exact e.symm
        · exact absurd (List.lt_trans (a1 b h2) (b1 a h1)) (tx_irr a)
    subst hab
    congr 1
    refine ris_eq A B a2 b2 fun x => ?_
    have hx := h x
    simp only [List.mem_cons] at hx
    constructor
    · intro h1
      exact (hx.1 (.inr h1)).elim (fun e => absurd (a1 x h1) (by rw [e]; exact tx_irr a)) id
    · intro h1
      exact (hx.2 (.inr h1)).elim (fun e => absurd (b1 x h1) (by rw [e]; exact tx_irr a)) id
theorem wordsL_perm {L M : List Tx} (h : ∀ x, x ∈ L ↔ x ∈ M) : wordsL L = wordsL M :=
  ris_eq _ _ (wordsL_ris L) (wordsL_ris M) fun x => by rw [wordsL_mem, wordsL_mem, h]
theorem insW_len (s : Tx) (W : List Tx) : (insW s W).length ≤ W.length + 1 := by
  induction W with
  | nil => simp [insW]
  | cons y t ih =>
    unfold insW
    split
    · simp; exact ih
    · split <;> simp
theorem foldW_len (L : List Tx) (W : List Tx) : (L.foldl (fun W s => insW s W) W).length ≤ W.length + L.length := by
  induction L generalizing W with
  | nil => simp
  | cons s t ih =>
    have h1 := ih (insW s W)
    have h2 := insW_len s W
    show (t.foldl _ (insW s W)).length ≤ _
    simp; omega
theorem wordsL_len (L : List Tx) : (wordsL L).length ≤ L.length := by have := foldW_len L []; simpa [wordsL] using this

/-- slices.Compact of a sorted list: the texts, rising. -/
theorem compact_sorted (zs : List Tx) (hs : zs.Pairwise (· ≤ ·)) : Lib.compact zs = wordsL zs := by
  have key : ∀ m, m ≤ zs.length → Ris (Lib.compactUpTo zs.toArray m) ∧ (∀ x, x ∈ Lib.compactUpTo zs.toArray m ↔ ∃ j, j < m ∧ zs[j]? = some x) := by
    intro m
    induction m with
    | zero => intro _; simp [Lib.compactUpTo]
    | succ m ih =>
      intro hm
      obtain ⟨h1, h2⟩ := ih (by omega)
      have hme : zs.toArray[m]! = zs[m] := by simp [show m < zs.length by omega]
      rw [Lib.compactUpTo_succ]
      have hz := List.pairwise_iff_getElem.1 hs
      by_cases hk : Lib.keeps zs.toArray m = true
      · rw [if_pos hk, hme]
        refine ⟨List.pairwise_append.2 ⟨h1, List.pairwise_singleton _ _, fun x hx y hy => ?_⟩, fun x => ?_⟩
        · simp at hy
          subst hy
          obtain ⟨j, hj, hjx⟩ := (h2 x).1 hx
          obtain ⟨hjl, hjx⟩ := List.getElem?_eq_some_iff.1 hjx
          unfold Lib.keeps at hk
          simp only [decide_eq_true_eq] at hk
          rcases hk with hk | hk
          · omega
          · have e1 : zs.toArray[m - 1]! = zs[m - 1] := by simp [show m - 1 < zs.length by omega]
            rw [hme, e1] at hk
            have l1 : zs[m - 1] ≤ zs[m] := hz (m - 1) m (by omega) (by omega) (by omega)
            have l2 : zs[j] ≤ zs[m - 1] := by
              by_cases e : j = m - 1
              · subst e; exact List.le_refl _
              · exact hz j (m - 1) (by omega) (by omega) (by omega)
            have l3 : zs[m - 1] < zs[m] := (tx_tri _ _).elim id (fun h => h.elim (fun h => absurd h.symm hk) (fun h => absurd l1 (List.not_le.2 h)))
            rw [← hjx]
            exact (tx_tri zs[j] zs[m]).elim id (fun h => h.elim (fun h => by rw [h] at l2; exact absurd l2 (List.not_le.2 l3)) (fun h => absurd (List.le_trans l2 l1) (List.not_le.2 h)))
        · rw [List.mem_append, h2]
          simp
          constructor
          · rintro (⟨j, hj, hx⟩ | rfl)
            · exact ⟨j, by omega, hx⟩
            · exact ⟨m, by omega, by simp [show m < zs.length by omega]⟩
          · rintro ⟨j, hj, hx⟩
            by_cases e : j = m
            · subst e
              right
              rw [List.getElem?_eq_getElem (by omega)] at hx
              exact (Option.some.inj hx).symm
            · exact .inl ⟨j, by omega, hx⟩
      · rw [if_neg hk, List.append_nil]
        refine ⟨h1, fun x => ?_⟩
        rw [h2]
        constructor
        · rintro ⟨j, hj, hx⟩; exact ⟨j, by omega, hx⟩
        · rintro ⟨j, hj, hx⟩
          by_cases e : j = m
          · subst e
            unfold Lib.keeps at hk
            simp only [decide_eq_true_eq, not_or, ne_eq, Decidable.not_not] at hk
            have e1 : zs.toArray[j - 1]! = zs[j - 1] := by simp [show j - 1 < zs.length by omega]
            rw [hme, e1] at hk
            exact ⟨j - 1, by omega, by rw [List.getElem?_eq_getElem (by omega), ← hk.2, ← List.getElem?_eq_getElem (by omega)]; exact hx⟩
          · exact ⟨j, by omega, hx⟩
  obtain ⟨h1, h2⟩ := key zs.length (Nat.le_refl _)
  refine ris_eq _ _ h1 (wordsL_ris zs) fun x => ?_
  show x ∈ Lib.compactUpTo zs.toArray zs.length ↔ _
  rw [h2, wordsL_mem]
  constructor
  · rintro ⟨j, hj, hx⟩; exact List.mem_of_getElem? hx
  · intro hx
    obtain ⟨j, hj, e⟩ := List.mem_iff_getElem.1 hx
    exact ⟨j, hj, by rw [List.getElem?_eq_getElem hj, e]⟩
theorem compact_sort (L : List Tx) : Lib.compact (L.mergeSort fun x y => decide (x ≤ y)) = wordsL L := by
  rw [compact_sorted _ (by
    have := List.pairwise_mergeSort (le := fun x y : Tx => decide (x ≤ y)) (fun a b c h1 h2 => by simp at *; exact List.le_trans h1 h2) (fun a b => by simp; exact List.le_total a b) L
    exact this.imp (fun h => by simpa using h))]
  exact wordsL_perm fun x => by simp
/-! What is written. -/
def encW (W : List Tx) : List UInt8 := W.flatMap fun s => nat7 s.length ++ s
def headW (W : List Tx) : List UInt8 := nat7 W.length ++ encW W
def atW (W L : List Tx) : List Int := L.map fun s => ((W.idxOf s : Nat) : Int)
def dputL (L : List Tx) : List UInt8 := headW (wordsL L) ++ bitsPut (atW (wordsL L) L)
theorem encW_snoc (W : List Tx) (s : Tx) : encW (W ++ [s]) = encW W ++ (nat7 s.length ++ s) := by simp [encW]
theorem atW_ints (W L : List Tx) (h : W.length ≤ 1000000) : Ints (atW W L) := fun v hv => by
  obtain ⟨s, _, rfl⟩ := List.mem_map.1 hv
  have := List.idxOf_le_length (a := s) (l := W)
  omega
theorem encW_len (W : List Tx) (m : Nat) (h : ∀ x ∈ W, x.length ≤ m) (hm : m ≤ 1000000) : (encW W).length ≤ W.length * (m + 10) := by
  induction W with
  | nil => simp [encW]
  | cons s t ih =>
    have h1 := ih (fun x hx => h x (by simp [hx]))
    have h2 := h s (by simp)
    have h3 := nat7_len64 s.length (by omega)
    show (nat7 s.length ++ s ++ encW t).length ≤ _
    simp only [List.length_append, List.length_cons, Nat.add_mul]
    omega
/-- k texts off the head of bytes. -/
def rdTexts : Nat → List UInt8 → Option (List Tx × List UInt8)
  | 0, b => some ([], b)
  | k + 1, b => match natGo 0 0 b with
    | none => none
    | some (v, r) => if v ≤ r.length then (match rdTexts k (r.drop v) with | none => none | some (ws, r2) => some (r.take v :: ws, r2)) else none
theorem rdTexts_enc (W : List Tx) (r : List UInt8) (h : ∀ x ∈ W, x.length ≤ 1000000) : rdTexts W.length (encW W ++ r) = some (W, r) := by
  induction W with
  | nil => rfl
  | cons s t ih =>
    have h1 := ih (fun x hx => h x (by simp [hx]))
    have h2 := h s (by simp)
    show rdTexts (t.length + 1) (nat7 s.length ++ s ++ encW t ++ r) = _
    unfold rdTexts
    rw [show nat7 s.length ++ s ++ encW t ++ r = nat7 s.length ++ (s ++ (encW t ++ r)) from by simp, natGo_put _ _ (by omega)]
    simp only
    rw [if_pos (by simp), List.drop_left, List.take_left, h1]
/-- Bytes that k texts were read off are their encoding and the rest. -/
theorem rdTexts_back : ∀ (k : Nat) (b : List UInt8) (W : List Tx) (r : List UInt8), rdTexts k b = some (W, r) → b = encW W ++ r ∧ W.length = k := by
  intro k
  induction k with
  | zero => intro b W r h; simp [rdTexts] at h; obtain ⟨rfl, rfl⟩ := h; exact ⟨rfl, rfl⟩
  | succ k ih =>
    intro b W r h
    unfold rdTexts at h
    cases hn : natGo 0 0 b with
    | none => rw [hn] at h; cases h
    | some p =>
      obtain ⟨v, r1⟩ := p
      rw [hn] at h
      simp only at h
      by_cases hv : v ≤ r1.length
      · rw [if_pos hv] at h
        cases h2 : rdTexts k (r1.drop v) with
        | none => rw [h2] at h; cases h
        | some q =>
          obtain ⟨ws, r2⟩ := q
          rw [h2] at h
          simp only [Option.some.injEq, Prod.mk.injEq] at h
          obtain ⟨rfl, rfl⟩ := h
          obtain ⟨h3, h4⟩ := ih _ _ _ h2
          refine ⟨?_, by simp [h4]⟩
          rw [natGo_nat hn]
          show _ = nat7 (r1.take v).length ++ r1.take v ++ encW ws ++ r2
          rw [List.length_take, Nat.min_eq_left hv, List.append_assoc, List.append_assoc, ← h3, List.take_append_drop]
      · rw [if_neg hv] at h; cases h
def inW (W : List Tx) (l : List Int) : Prop := ∀ i ∈ l, 0 ≤ i ∧ i < (W.length : Int)
instance (W : List Tx) (l : List Int) : Decidable (inW W l) := inferInstanceAs (Decidable (∀ i ∈ l, 0 ≤ i ∧ i < (W.length : Int)))
def outW (W : List Tx) (l : List Int) : List Tx := l.map fun i => W.getD i.toNat []
def dchk (b : List UInt8) (o : List Tx) : Option (List Tx) := if dputL o = b then some o else none
def dgetW (b : List UInt8) (n : Int) (W : List Tx) (r : List UInt8) : Option (List Tx) := match bitsGet r n with
  | none => none
  | some l => if inW W l then dchk b (outW W l) else none
def dgetC (b : List UInt8) (n : Int) (c : Nat) (r : List UInt8) : Option (List Tx) := match rdTexts c r with
  | none => none
  | some (W, r2) => dgetW b n W r2
def dgetL (b : List UInt8) (n : Int) : Option (List Tx) := if n < 0 ∨ 256 < n then none else match natGo 0 0 b with
  | none => none
  | some (c, r) => if 256 < c then none else dgetC b n c r
theorem outW_at (W L : List Tx) (h : ∀ x ∈ L, x ∈ W) : inW W (atW W L) ∧ outW W (atW W L) = L := by
  constructor
  · intro i hi
    obtain ⟨s, hs, rfl⟩ := List.mem_map.1 hi
    have := List.idxOf_lt_length_of_mem (h s hs)
    omega
  · unfold outW atW
    rw [List.map_map]
    conv => rhs; rw [← List.map_id L]
    refine List.map_congr_left fun s hs => ?_
    have hl := List.idxOf_lt_length_of_mem (h s hs)
    simp [hl]
/-- What was written is read again. -/
theorem dgetL_put (L : List Tx) (hn : L.length ≤ 256) (hL : ∀ x ∈ L, x.length ≤ 1000000) : dgetL (dputL L) (L.length : Int) = some L := by
  have hw := wordsL_len L
  have hm : ∀ x ∈ L, x ∈ wordsL L := fun x hx => (wordsL_mem L x).2 hx
  unfold dgetL
  rw [if_neg (by omega)]
  have e : dputL L = nat7 (wordsL L).length ++ (encW (wordsL L) ++ bitsPut (atW (wordsL L) L)) := by unfold dputL headW; rw [List.append_assoc]
  have hg : natGo 0 0 (dputL L) = some ((wordsL L).length, encW (wordsL L) ++ bitsPut (atW (wordsL L) L)) := by rw [e, natGo_put _ _ (by omega)]
  rw [hg]
  simp only
  rw [if_neg (by omega)]
  unfold dgetC
  rw [rdTexts_enc _ _ (fun x hx => hL x ((wordsL_mem L x).1 hx))]
  simp only
  unfold dgetW
  have hb := bitsGet_put (atW_ints (wordsL L) L (by omega)) (by simpa [atW] using hn)
  rw [show (atW (wordsL L) L).length = L.length from by simp [atW]] at hb
  rw [hb]
  simp only
  obtain ⟨h1, h2⟩ := outW_at (wordsL L) L hm
  rw [if_pos h1, h2]
  unfold dchk
  rw [if_pos rfl]
/-- A list that is read is what was written. -/
theorem dchk_some {b : List UInt8} {o l : List Tx} (h : dchk b o = some l) : l = o ∧ dputL l = b := by
  unfold dchk at h
  split at h
  · rename_i h1
    injection h with h
    subst h
    exact ⟨rfl, h1⟩
  · cases h
theorem dput_head (L : List Tx) (b : List UInt8) (c : Nat) (r : List UInt8) (hL : L.length ≤ 1000000) (hg : natGo 0 0 b = some (c, r)) (h : dputL L = b) : c = (wordsL L).length := by
  have hw := wordsL_len L
  rw [← h] at hg
  unfold dputL headW at hg
  rw [List.append_assoc, natGo_put _ _ (by omega)] at hg
  injection hg with hg
  injection hg with h1 h2
  exact h1.symm
end Go.Proofs.YthbipcjgpocpaaaGreat
