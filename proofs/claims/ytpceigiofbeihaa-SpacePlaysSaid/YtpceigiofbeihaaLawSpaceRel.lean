/- Space: the document's map and the code's, act by act. -/
import Derived.Test.YtpceigiofbeihaaRefSpace
import Derived.Test.YtpceigiofbeihaaLawSixP
namespace Go.Proofs.Ytpceigiofbeihaa
open Go.RowKit
set_option linter.unusedSimpArgs false
set_option linter.unusedVariables false

/-- F: the free ones of T, rising. -/
def Rel (T : List Bool) (F : List Int) : Prop := F.Pairwise (· < ·) ∧ (∀ i : Int, i ∈ F ↔ 0 ≤ i ∧ T[i.toNat]? = some false) ∧ F.length = T.count false

theorem Rel.len {T : List Bool} {F : List Int} (h : Rel T F) : F.length ≤ T.length := by rw [h.2.2]; exact List.count_le_length

theorem iota_mem (r n : Nat) : ∀ i : Int, i ∈ iota r n ↔ (r : Int) ≤ i ∧ i < n := by
  induction n with
  | zero => intro i; simp [iota]; omega
  | succ n ih =>
    intro i
    by_cases h : r ≤ n
    · rw [iota_succ r n h, List.mem_append, ih i]; simp; omega
    · have : iota r (n + 1) = [] := by simp [iota, h]
      rw [this]; simp; omega
theorem iota_length (r n : Nat) : (iota r n).length = n - r := by
  induction n with
  | zero => simp [iota]
  | succ n ih =>
    by_cases h : r ≤ n
    · rw [iota_succ r n h, List.length_append, ih]; simp; omega
    · have : iota r (n + 1) = [] := by simp [iota, h]
      rw [this]; simp; omega
theorem iota_sorted (r n : Nat) : (iota r n).Pairwise (· < ·) := by
  induction n with
  | zero => simp [iota]
  | succ n ih =>
    by_cases h : r ≤ n
    · rw [iota_succ r n h, List.pairwise_append]
      refine ⟨ih, by simp, fun a ha b hb => ?_⟩
      simp at hb
      have := (iota_mem r n a).1 ha
      omega
    · have : iota r (n + 1) = [] := by simp [iota, h]
      rw [this]; simp
theorem newT_at (n r i : Nat) (h : r ≤ n) : (newT n r)[i]? = some false ↔ r ≤ i ∧ i < n := by
  unfold newT
  by_cases h1 : i < r
  · rw [List.getElem?_append_left (by simpa using h1)]
    rw [List.getElem?_replicate, if_pos h1]
    simp; omega
  · rw [List.getElem?_append_right (by simp; omega), List.getElem?_replicate, List.length_replicate]
    by_cases h2 : i - r < n - r
    · rw [if_pos h2]; simp; omega
    · rw [if_neg h2]; simp; omega
theorem rel_new (n r : Nat) (h : r ≤ n) : Rel (newT n r) (iota r n) := by
  refine ⟨iota_sorted r n, fun i => ?_, by rw [iota_length, newT_count]⟩
  rw [iota_mem]
  constructor
  · rintro ⟨h1, h2⟩
    exact ⟨by omega, (newT_at n r i.toNat h).2 ⟨by omega, by omega⟩⟩
  · rintro ⟨h1, h2⟩
    have := (newT_at n r i.toNat h).1 h2
    omega
theorem rel_take_nil {T : List Bool} (h : Rel T []) : ¬ T.findIdx (· == false) < T.length := by
  intro hlt
  have := (find_lt T).1 hlt
  have h2 := h.2.2
  simp at h2
  omega
theorem rel_take_cons {T : List Bool} {x : Int} {F : List Int} (h : Rel T (x :: F)) : T.findIdx (· == false) < T.length ∧ (T.findIdx (· == false) : Int) = x ∧ Rel (T.set (T.findIdx (· == false)) true) F := by
  obtain ⟨hs, hm, hl⟩ := h
  have hlt : T.findIdx (· == false) < T.length := (find_lt T).2 (by rw [← hl]; simp)
  have hat := find_at T hlt
  obtain ⟨k, hk⟩ : ∃ k, T.findIdx (· == false) = k := ⟨_, rfl⟩
  have hmin : ∀ j, j < k → T[j]? ≠ some false := by
    intro j hj e
    rw [← hk] at hj
    have h1 := List.not_of_lt_findIdx hj
    rw [List.getElem?_eq_getElem (by omega)] at e
    simp at e
    simp [e] at h1
  rw [hk] at hlt hat ⊢
  have hx := (hm x).1 (by simp)
  have hkF : (k : Int) ∈ x :: F := (hm k).2 ⟨by omega, by simpa using hat⟩
  have hxk : (k : Int) = x := by
    rcases List.mem_cons.1 hkF with e | e
    · exact e
    · have hlt2 := (List.pairwise_cons.1 hs).1 _ e
      exact absurd hx.2 (hmin x.toNat (by omega))
  refine ⟨hlt, hxk, (List.pairwise_cons.1 hs).2, fun i => ?_, ?_⟩
  · constructor
    · intro hi
      have h1 := (List.pairwise_cons.1 hs).1 i hi
      have h2 := (hm i).1 (by simp [hi])
      refine ⟨h2.1, ?_⟩
      rw [List.getElem?_set_ne (by omega)]
      exact h2.2
    · rintro ⟨h1, h2⟩
      by_cases e : k = i.toNat
      · rw [← e, List.getElem?_set_self hlt] at h2
        simp at h2
      · rw [List.getElem?_set_ne e] at h2
        rcases List.mem_cons.1 ((hm i).2 ⟨h1, h2⟩) with e' | e'
        · omega
        · exact e'
  · have := count_set T k false hat
    simp at hl this
    omega
theorem filter_out (F : List Int) (i : Int) (hs : F.Pairwise (· < ·)) : (F.filter (fun x => x != i)).length = F.length - (if i ∈ F then 1 else 0) := by
  induction F with
  | nil => simp
  | cons x t ih =>
    obtain ⟨h1, h2⟩ := List.pairwise_cons.1 hs
    have := ih h2
    by_cases e : x = i
    · subst e
      have hn : x ∉ t := fun h => by have := h1 x h; omega
      rw [if_neg hn] at this
      simp [this]
    · have hne : (x != i) = true := by rw [bne_iff_ne]; exact e
      have hmem : i ∈ x :: t ↔ i ∈ t := by simp; intro e'; exact absurd e'.symm e
      simp only [List.filter_cons, hne, if_true, List.length_cons, this, hmem]
      by_cases hi : i ∈ t
      · have := List.length_pos_of_mem hi
        rw [if_pos hi]; omega
      · rw [if_neg hi]; omega
theorem rel_mark {T : List Bool} {F : List Int} (h : Rel T F) (i : Int) : ((F.filter (fun x => x != i)).length < F.length ↔ (0 ≤ i ∧ T[i.toNat]? = some false)) ∧ Rel (markT T i) (F.filter (fun x => x != i)) := by
  obtain ⟨hs, hm, hl⟩ := h
  have hf := filter_out F i hs
  refine ⟨?_, hs.filter _, fun j => ?_, ?_⟩
  · rw [hf, ← hm]
    by_cases hi : i ∈ F
    · have := List.length_pos_of_mem hi
      simp [hi]; omega
    · simp [hi]
  · rw [List.mem_filter, hm]
    unfold markT
    by_cases hc : 0 ≤ i ∧ T[i.toNat]? = some false
    · rw [if_pos hc]
      have hil := (List.getElem?_eq_some_iff.1 hc.2).1
      constructor
      · rintro ⟨⟨h1, h2⟩, h3⟩
        have hne : j ≠ i := by simpa using h3
        refine ⟨h1, ?_⟩
        rw [List.getElem?_set_ne (by omega)]
        exact h2
      · rintro ⟨h1, h2⟩
        by_cases e : i.toNat = j.toNat
        · rw [← e, List.getElem?_set_self hil] at h2
          simp at h2
        · rw [List.getElem?_set_ne e] at h2
          refine ⟨⟨h1, h2⟩, ?_⟩
          simp
          intro e'; exact e (by rw [e'])
    · rw [if_neg hc]
      constructor
      · exact fun h => h.1
      · intro h
        refine ⟨h, ?_⟩
        simp
        intro e; exact hc (e ▸ h)
  · rw [hf]
    unfold markT
    by_cases hc : 0 ≤ i ∧ T[i.toNat]? = some false
    · have hi := (hm i).2 hc
      rw [if_pos hc, if_pos hi]
      have := count_set T _ false hc.2
      simp at this
      omega
    · have hi : i ∉ F := fun e => hc ((hm i).1 e)
      rw [if_neg hc, if_neg hi, hl]; rfl
theorem insB_mem (i j : Int) (F : List Int) : j ∈ insB i F ↔ j = i ∨ j ∈ F := by
  induction F with
  | nil => simp [insB]
  | cons x t ih =>
    simp only [insB]
    split
    · simp
    · simp only [List.mem_cons, ih]
      constructor
      · rintro (h | h | h) <;> simp [h]
      · rintro (h | h | h) <;> simp [h]
theorem insB_sorted (i : Int) (F : List Int) (hs : F.Pairwise (· < ·)) (hn : i ∉ F) : (insB i F).Pairwise (· < ·) := by
  induction F with
  | nil => simp [insB]
  | cons x t ih =>
    obtain ⟨h1, h2⟩ := List.pairwise_cons.1 hs
    simp only [insB]
    split
    · rename_i hlt
      rw [List.pairwise_cons]
      refine ⟨fun a ha => ?_, hs⟩
      rcases List.mem_cons.1 ha with rfl | ha
      · exact hlt
      · have := h1 a ha; omega
    · rename_i hge
      have hnx : i ≠ x := fun e => hn (by simp [e])
      rw [List.pairwise_cons]
      refine ⟨fun a ha => ?_, ih h2 (fun e => hn (by simp [e]))⟩
      rcases (insB_mem i a t).1 ha with rfl | ha
      · omega
      · exact h1 a ha
theorem rel_give {T : List Bool} {F : List Int} (h : Rel T F) (r : Nat) (i : Int) (hc : (r : Int) ≤ i ∧ T[i.toNat]? = some true) : i ∉ F ∧ Rel (giveT T r i) (insB i F) := by
  obtain ⟨hs, hm, hl⟩ := h
  have hil := (List.getElem?_eq_some_iff.1 hc.2).1
  have hn : i ∉ F := fun e => by have := ((hm i).1 e).2; rw [hc.2] at this; simp at this
  refine ⟨hn, insB_sorted i F hs hn, fun j => ?_, ?_⟩
  · rw [insB_mem, hm]
    unfold giveT
    rw [if_pos hc]
    by_cases e : i.toNat = j.toNat
    · rw [← e, List.getElem?_set_self hil]
      constructor
      · rintro (h | h)
        · exact ⟨by omega, rfl⟩
        · exact ⟨h.1, rfl⟩
      · rintro ⟨h, _⟩
        exact .inl (by omega)
    · rw [List.getElem?_set_ne e]
      constructor
      · rintro (h | h)
        · exact absurd (by rw [h]) e
        · exact h
      · exact .inr
  · rw [insB_length]
    unfold giveT
    rw [if_pos hc]
    have := count_set' T _ true hc.2
    simp at this
    omega

/-- The document's map of which T says what is taken. -/
def XM (w : World) (b : Nat) (v : Value) (r : Nat) (T : List Bool) : Prop := ∃ F, RM w b v T.length r F ∧ Rel T F ∧ T.length ≤ 4096
theorem XM.keep {w w' : World} {b : Nat} {v : Value} {r : Nat} {T : List Bool} {S : Nat → Prop} (h : XM w b v r T) (k : Keeps S w w') (hb : ¬ S b) (hv : ∀ i, v.ownBlock = some i → ¬ S i) : XM w' b v r T := by
  obtain ⟨F, h1, h2⟩ := h
  exact ⟨F, h1.keep k hb hv, h2⟩
theorem XM.kept {w w' : World} {b : Nat} {v : Value} {r : Nat} {T : List Bool} (h : XM w b v r T) (k : Keeps No w w') : XM w' b v r T := h.keep k (not_No _) (fun _ _ => not_No _)

/-- What an act leaves of the document's map: T turned, its row the old one or new. -/
def Xd (w : World) (b : Nat) (v : Value) (r : Nat) (T' : List Bool) (w' : World) : Prop := ∃ v', XM w' b v' r T' ∧ (∀ k, v'.ownBlock = some k → v.ownBlock = some k ∨ w.heap.size ≤ k) ∧ Keeps (fun k => k = b) w w'

theorem xTake_any (b : Nat) (v : Value) (T : List Bool) (r : Nat) (w : World) (h : XM w b v r T) :
    Calls Try.prog 23 #[.pointer (some ⟨b, 0, none⟩)] w fun e w' =>
      e = .returned (.tuple #[.int .i64 (if T.findIdx (· == false) < T.length then (T.findIdx (· == false) : Int) else 0), .bool (decide (T.findIdx (· == false) < T.length))]) ∧ Xd w b v r (takeT T) w' := by
  obtain ⟨F, h1, h2, h3⟩ := h
  cases F with
  | nil =>
    have hf := rel_take_nil h2
    refine (refTake_nil b v T.length r w h1).mono ?_
    rintro e w1 ⟨rfl, rfl⟩
    rw [if_neg hf, decide_eq_false hf]
    refine ⟨rfl, v, ⟨[], ?_⟩, fun k h => .inl h, Keeps.refl _ _⟩
    rw [takeT_length]
    unfold takeT
    rw [if_neg hf]
    exact ⟨h1, h2, h3⟩
  | cons x F =>
    obtain ⟨hf, hx, hr⟩ := rel_take_cons h2
    have hlen := h2.len
    simp at hlen
    refine (refTake_cons b v T.length r x F w h1 (by omega)).mono ?_
    rintro e w1 ⟨v', rfl, g1, g2, g3⟩
    rw [if_pos hf, decide_eq_true hf, hx]
    refine ⟨rfl, v', ⟨F, ?_⟩, fun k h => .inr (g2 k h), g3⟩
    rw [takeT_length]
    unfold takeT
    rw [if_pos hf]
    exact ⟨g1, hr, h3⟩

theorem xMark_any (b : Nat) (v : Value) (T : List Bool) (r : Nat) (i : Int) (w : World) (h : XM w b v r T) :
    Calls Try.prog 25 #[.pointer (some ⟨b, 0, none⟩), .int .i64 i] w fun e w' =>
      e = .returned (.bool (decide (0 ≤ i ∧ T[i.toNat]? = some false))) ∧ Xd w b v r (markT T i) w' := by
  obtain ⟨F, h1, h2, h3⟩ := h
  have hlen := h2.len
  obtain ⟨hiff, hr⟩ := rel_mark h2 i
  refine (refMark_any b v T.length r F i w h1 (by omega)).mono ?_
  rintro e w1 ⟨v', rfl, g1, g2, g3⟩
  refine ⟨by rw [decide_eq_decide.2 hiff], v', ⟨_, by rw [markT_length]; exact g1, hr, by rw [markT_length]; exact h3⟩, fun k h => .inr (g2 k h), g3⟩

theorem xGive_any (b : Nat) (v : Value) (T : List Bool) (r : Nat) (i : Int) (w : World) (h : XM w b v r T) :
    Calls Try.prog 26 #[.pointer (some ⟨b, 0, none⟩), .int .i64 i] w fun e w' =>
      e = .returned (.bool (decide ((r : Int) ≤ i ∧ T[i.toNat]? = some true))) ∧ Xd w b v r (giveT T r i) w' := by
  obtain ⟨F, h1, h2, h3⟩ := h
  have hlen := h2.len
  by_cases hc : (r : Int) ≤ i ∧ T[i.toNat]? = some true
  · obtain ⟨hn, hr⟩ := rel_give h2 r i hc
    have hil := (List.getElem?_eq_some_iff.1 hc.2).1
    rw [decide_eq_true hc]
    refine (refGive_yes b v T.length r F i w h1 (by omega) hc.1 (by omega) hn).mono ?_
    rintro e w1 ⟨v', rfl, g1, g2, g3⟩
    exact ⟨rfl, v', ⟨_, by rw [giveT_length]; exact g1, hr, by rw [giveT_length]; exact h3⟩, fun k h => .inr (g2 k h), g3⟩
  · rw [decide_eq_false hc]
    refine (refGive_no b v T.length r F i w h1 (by omega) ?_).mono ?_
    · by_cases e1 : i < r
      · exact .inl e1
      by_cases e2 : (T.length : Int) ≤ i
      · exact .inr (.inl e2)
      refine .inr (.inr ((h2.2.1 i).2 ⟨by omega, ?_⟩))
      have hl : i.toNat < T.length := by omega
      rw [List.getElem?_eq_getElem hl] at hc ⊢
      cases hb : T[i.toNat] with
      | false => rfl
      | true => exact absurd ⟨by omega, by rw [hb]⟩ hc
    · rintro e w1 ⟨rfl, rfl⟩
      refine ⟨rfl, v, ⟨F, ?_⟩, fun k h => .inl h, Keeps.refl _ _⟩
      rw [giveT_length]
      unfold giveT
      rw [if_neg hc]
      exact ⟨h1, h2, h3⟩

theorem xIs_any (b : Nat) (v : Value) (T : List Bool) (r : Nat) (i : Int) (w : World) (h : XM w b v r T) :
    Calls Try.prog 28 #[.pointer (some ⟨b, 0, none⟩), .int .i64 i] w fun e w' => e = .returned (.bool (decide (0 ≤ i ∧ T[i.toNat]? = some false))) ∧ w = w' := by
  obtain ⟨F, h1, h2, h3⟩ := h
  have hlen := h2.len
  have := refIs_any b v T.length r F i w h1 (by omega)
  rw [decide_eq_decide.2 (h2.2.1 i)] at this
  exact this

theorem xNew_any (n r : Nat) (w : World) (hr : r ≤ n) (hn : n ≤ 4096) :
    Calls Try.prog 22 #[.int .i64 n, .int .i64 r] w fun e w' =>
      ∃ b v, e = .returned (.pointer (some ⟨b, 0, none⟩)) ∧ XM w' b v r (newT n r) ∧ w.heap.size ≤ b ∧ (∀ k, v.ownBlock = some k → w.heap.size ≤ k) ∧ Keeps No w w' := by
  refine (refNew_any n r w hr hn).mono ?_
  rintro e w1 ⟨b, v, rfl, g1, g2, g3, g4⟩
  exact ⟨b, v, rfl, ⟨_, by rw [newT_length n r hr]; exact g1, rel_new n r hr, by rw [newT_length n r hr]; exact hn⟩, g2, g3, g4⟩
end Go.Proofs.Ytpceigiofbeihaa
