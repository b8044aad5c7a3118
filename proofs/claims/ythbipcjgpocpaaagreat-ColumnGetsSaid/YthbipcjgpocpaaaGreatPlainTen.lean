/- Layer 10, plain: what Put and the document's Put compute is one; it is read again; ones are counted. -/
import Derived.Test.YthbipcjgpocpaaaGreatRefBitmap
namespace Go.Proofs.YthbipcjgpocpaaaGreat
set_option linter.unusedSimpArgs false
set_option linter.unusedVariables false

def bitAt (b : List UInt8) (i : Nat) : Bool := (b.getD (i / 8) 0).toNat.testBit (i % 8)

theorem getD_ge {α : Type} (l : List α) (d : α) (i : Nat) (h : l.length ≤ i) : l.getD i d = d := by simp [List.getD_eq_getElem?_getD, h]
theorem getD_app_l {α : Type} (a b : List α) (d : α) (i : Nat) (h : i < a.length) : (a ++ b).getD i d = a.getD i d := by simp [List.getD_eq_getElem?_getD, List.getElem?_append_left h]
theorem getD_app_r {α : Type} (a b : List α) (d : α) (i : Nat) (h : a.length ≤ i) : (a ++ b).getD i d = b.getD (i - a.length) d := by simp [List.getD_eq_getElem?_getD, List.getElem?_append_right h]
theorem byte_ext (x y : UInt8) (h : ∀ b, b < 8 → x.toNat.testBit b = y.toNat.testBit b) : x = y := by
  apply UInt8.toNat_inj.1
  apply Nat.eq_of_testBit_eq
  intro i
  by_cases hi : i < 8
  · exact h i hi
  · have hx : x.toNat < 2 ^ i := Nat.lt_of_lt_of_le x.toNat_lt (Nat.pow_le_pow_right (by decide) (by omega))
    have hy : y.toNat < 2 ^ i := Nat.lt_of_lt_of_le y.toNat_lt (Nat.pow_le_pow_right (by decide) (by omega))
    rw [Nat.testBit_lt_two_pow hx, Nat.testBit_lt_two_pow hy]

theorem bytes_ext (b c : List UInt8) (hl : b.length = c.length) (h : ∀ i, i < 8 * b.length → bitAt b i = bitAt c i) : b = c := by
  apply List.ext_getElem hl
  intro j h1 h2
  apply byte_ext
  intro k hk
  have := h (8 * j + k) (by omega)
  simp only [bitAt, show (8 * j + k) / 8 = j from by omega, show (8 * j + k) % 8 = k from by omega] at this
  simpa [h1, h2] using this

theorem one_shift : ∀ j b : Fin 8, ((1 : UInt8) <<< UInt8.ofNat j.val).toNat.testBit b.val = decide (b.val = j.val) := by decide +kernel

theorem or_bit (x : UInt8) (j b : Nat) (hj : j < 8) (hb : b < 8) : (x ||| ((1 : UInt8) <<< UInt8.ofNat j)).toNat.testBit b = (x.toNat.testBit b || decide (b = j)) := by
  rw [UInt8.toNat_or, Nat.testBit_or]
  congr 1
  exact one_shift ⟨j, hj⟩ ⟨b, hb⟩

theorem putTo_bit (l : List Bool) (k : Nat) (hk : k ≤ l.length) : ∀ i, i < 8 * ((l.length + 7) / 8) → bitAt (putTo l k) i = (decide (i < k) && l.getD i false) := by
  induction k with
  | zero =>
    intro i hi
    have : i / 8 < (l.length + 7) / 8 := by omega
    simp [bitAt, putTo, this]
  | succ k ih =>
    intro i hi
    have ihi := ih (by omega) i hi
    have hlen := putTo_length l k
    rw [putTo, putStep]
    by_cases hl : l.getD k false = true
    · rw [if_pos hl]
      have hkj : k / 8 < (putTo l k).length := by omega
      by_cases he : i / 8 = k / 8
      · unfold bitAt at ihi ⊢
        rw [he, List.getD_eq_getElem?_getD, List.getElem?_set_self hkj, Option.getD_some, or_bit _ _ _ (by omega) (by omega)]
        rw [he] at ihi
        rw [ihi]
        by_cases h2 : i % 8 = k % 8
        · obtain rfl : i = k := by omega
          simp only [List.getD_eq_getElem?_getD] at hl
          simp [hl]
        · have : i ≠ k := by intro h; exact h2 (by rw [h])
          rw [decide_eq_false h2, Bool.or_false]
          congr 1
          exact decide_eq_decide.2 (by omega)
      · unfold bitAt at ihi ⊢
        rw [List.getD_eq_getElem?_getD, List.getElem?_set_ne (by omega), ← List.getD_eq_getElem?_getD, ihi]
        have : i ≠ k := by intro h; exact he (by rw [h])
        congr 1
        exact decide_eq_decide.2 (by omega)
    · rw [if_neg hl, ihi]
      by_cases h : i = k
      · subst h
        have : l.getD i false = false := by simpa using hl
        rw [this]; simp
      · congr 1
        exact decide_eq_decide.2 (by omega)

theorem put_bit (l : List Bool) (i : Nat) (hi : i < 8 * ((l.length + 7) / 8)) : bitAt (putTo l l.length) i = l.getD i false := by
  rw [putTo_bit l _ (Nat.le_refl _) i hi]
  by_cases h : i < l.length
  · simp [h]
  · simp [h]

theorem val_bit (l : List Bool) : ∀ i, (val l).testBit i = l.getD i false := by
  induction l with
  | nil => intro i; simp [val]
  | cons b t ih =>
    intro i
    cases i with
    | zero => simp only [val, Nat.testBit_zero]; cases b <;> simp <;> omega
    | succ i =>
      rw [Nat.testBit_succ]
      have : val (b :: t) / 2 = val t := by simp only [val]; split <;> omega
      rw [this, ih]; simp

theorem refPut_spec (n : Nat) : ∀ l : List Bool, l.length ≤ n → (refPut l).length = (l.length + 7) / 8 ∧ ∀ i, bitAt (refPut l) i = l.getD i false := by
  induction n with
  | zero =>
    intro l hl
    have : l = [] := List.eq_nil_of_length_eq_zero (by omega)
    subst this
    rw [refPut_nil]
    exact ⟨rfl, fun i => by simp [bitAt]⟩
  | succ n ih =>
    intro l hl
    by_cases h : 0 < l.length
    · obtain ⟨h1, h2⟩ := ih (l.drop 8) (by simp; omega)
      rw [refPut_step l h]
      refine ⟨by rw [List.length_cons, h1, List.length_drop]; omega, fun i => ?_⟩
      have hv := val_lt (l.take 8)
      have hv8 : 2 ^ (l.take 8).length ≤ 2 ^ 8 := Nat.pow_le_pow_right (by decide) (by simp; omega)
      by_cases hi : i < 8
      · unfold bitAt
        rw [show i / 8 = 0 from by omega, show i % 8 = i from by omega]
        simp only [List.getD_cons_zero, UInt8.toNat_ofNat']
        rw [Nat.mod_eq_of_lt (by omega), val_bit]
        simp only [List.getD_eq_getElem?_getD, List.getElem?_take, if_pos hi]
      · have := h2 (i - 8)
        unfold bitAt at this ⊢
        rw [show i / 8 = (i - 8) / 8 + 1 from by omega, List.getD_cons_succ, show i % 8 = (i - 8) % 8 from by omega, this]
        simp only [List.getD_eq_getElem?_getD, List.getElem?_drop]
        rw [show 8 + (i - 8) = i from by omega]
    · have : l = [] := List.eq_nil_of_length_eq_zero (by omega)
      subst this
      rw [refPut_nil]
      exact ⟨rfl, fun i => by simp [bitAt]⟩

theorem refPut_eq (l : List Bool) : refPut l = putTo l l.length := by
  obtain ⟨h1, h2⟩ := refPut_spec l.length l (Nat.le_refl _)
  refine bytes_ext _ _ (by rw [h1, putTo_length]) fun i hi => ?_
  rw [h2, put_bit l i (by rw [h1] at hi; exact hi)]

/-- Nothing of a byte stands from bit s on. -/
theorem high_zero (x : UInt8) (s : Nat) : x.toNat / 2 ^ s = 0 ↔ ∀ b, s ≤ b → b < 8 → x.toNat.testBit b = false := by
  constructor
  · intro h b hsb hb
    have h1 : x.toNat < 2 ^ s := by
      rcases Nat.div_eq_zero_iff.1 h with h | h
      · exact absurd h (by have := Nat.two_pow_pos s; omega)
      · exact h
    exact Nat.testBit_lt_two_pow (Nat.lt_of_lt_of_le h1 (Nat.pow_le_pow_right (by decide) hsb))
  · intro h
    apply Nat.eq_of_testBit_eq
    intro i
    rw [Nat.testBit_div_two_pow, Nat.zero_testBit]
    by_cases hi : i + s < 8
    · exact h _ (by omega) (by omega)
    · exact Nat.testBit_lt_two_pow (Nat.lt_of_lt_of_le x.toNat_lt (Nat.pow_le_pow_right (by decide) (by omega)))

theorem getTo_get (b : List UInt8) (n : Nat) : getTo b n = (List.range n).map (bitAt b) := rfl

theorem getBits_put (l : List Bool) : getBits (putTo l l.length) (l.length : Int) = some l := by
  unfold getBits
  rw [if_neg (by rw [putTo_length]; omega), if_neg, Int.toNat_natCast, getTo_get]
  · congr 1
    apply List.ext_getElem (by simp)
    intro i h1 h2
    rw [List.getElem_map, List.getElem_range, put_bit l i (by omega)]
    simp [h2]
  · rintro ⟨h1, h2⟩
    rw [show ((l.length : Int) / 8).toNat = l.length / 8 from by omega, show ((l.length : Int) % 8).toNat = l.length % 8 from by omega] at h2
    have : ((putTo l l.length).getD (l.length / 8) 0).toNat / 2 ^ (l.length % 8) = 0 := by
      rw [high_zero]
      intro b hb hb8
      have := put_bit l (8 * (l.length / 8) + b) (by omega)
      unfold bitAt at this
      rw [show (8 * (l.length / 8) + b) / 8 = l.length / 8 from by omega, show (8 * (l.length / 8) + b) % 8 = b from by omega] at this
      rw [this]
      exact getD_ge _ _ _ (by omega)
    omega

theorem bitsOf_get (b : List UInt8) (i : Nat) : (bitsOf b).getD i false = bitAt b i := by
  induction b generalizing i with
  | nil => simp [bitsOf, bitAt]
  | cons x b ih =>
    have e : bitsOf (x :: b) = bitsTo x 8 ++ bitsOf b := by simp [bitsOf]
    rw [e]
    by_cases hi : i < 8
    · rw [getD_app_l _ _ _ _ (by rw [bitsTo_length]; exact hi)]
      unfold bitAt
      rw [show i / 8 = 0 from by omega, show i % 8 = i from by omega]
      simp [bitsTo, hi]
    · rw [getD_app_r _ _ _ _ (by rw [bitsTo_length]; omega), bitsTo_length, ih]
      unfold bitAt
      rw [show i / 8 = (i - 8) / 8 + 1 from by omega, show i % 8 = (i - 8) % 8 from by omega]
      rfl

theorem getBits_ref (b : List UInt8) (n : Int) : getBits b n = refGet b n := by
  have hL := bitsOf_length b
  unfold getBits refGet
  by_cases h : n < 0 ∨ (b.length : Int) ≠ n / 8 + (n % 8 + 7) / 8
  · rw [if_pos h, if_pos (by rw [hL]; omega)]
  · have hbad : ¬ (n < 0 ∨ n > ((bitsOf b).length : Int) ∨ (7 < (bitsOf b).length ∧ n ≤ ((bitsOf b).length : Int) - 8) ∨ (n = 0 ∧ 0 < (bitsOf b).length)) := by rw [hL]; omega
    rw [if_neg h, if_neg hbad]
    obtain ⟨k, rfl⟩ := Int.eq_ofNat_of_zero_le (show 0 ≤ n from by omega)
    rw [Int.toNat_natCast, show ((k : Int) / 8).toNat = k / 8 from by omega, show ((k : Int) % 8).toNat = k % 8 from by omega]
    have hb : b.length = k / 8 + (k % 8 + 7) / 8 := by omega
    have hany : ((bitsOf b).drop k).any id = true ↔ (0 < (k : Int) % 8 ∧ 0 < (b.getD (k / 8) 0).toNat / 2 ^ (k % 8)) := by
      rw [List.any_eq_true]
      constructor
      · rintro ⟨t, ht, ht2⟩
        obtain ⟨i, hi, hit⟩ := List.getElem_of_mem ht
        rw [List.length_drop, hL] at hi
        have h8 : 0 < k % 8 := by omega
        refine ⟨by omega, Nat.pos_of_ne_zero fun h0 => ?_⟩
        have h1 := (high_zero _ _).1 h0 ((k + i) % 8) (by omega) (by omega)
        have h2 := bitsOf_get b (k + i)
        unfold bitAt at h2
        rw [show (k + i) / 8 = k / 8 from by omega, h1] at h2
        rw [List.getElem_drop] at hit
        have h3 : k + i < (bitsOf b).length := by omega
        simp only [List.getD_eq_getElem?_getD, List.getElem?_eq_getElem h3, Option.getD_some] at h2
        rw [hit] at h2
        rw [h2] at ht2
        exact absurd ht2 (by decide)
      · rintro ⟨h8, hpos⟩
        apply Classical.byContradiction
        intro hno
        have : (b.getD (k / 8) 0).toNat / 2 ^ (k % 8) = 0 := by
          rw [high_zero]
          intro j hj hj8
          have hlt : 8 * (k / 8) + j < (bitsOf b).length := by omega
          have h2 := bitsOf_get b (8 * (k / 8) + j)
          unfold bitAt at h2
          rw [show (8 * (k / 8) + j) / 8 = k / 8 from by omega, show (8 * (k / 8) + j) % 8 = j from by omega] at h2
          rw [← h2]
          simp only [List.getD_eq_getElem?_getD, List.getElem?_eq_getElem hlt, Option.getD_some]
          apply Classical.byContradiction
          intro ht
          apply hno
          refine ⟨_, List.getElem_mem (l := (bitsOf b).drop k) (n := 8 * (k / 8) + j - k) (by rw [List.length_drop]; omega), ?_⟩
          rw [List.getElem_drop]
          simp only [show k + (8 * (k / 8) + j - k) = 8 * (k / 8) + j from by omega]
          simpa using ht
        omega
    by_cases h2 : ((bitsOf b).drop k).any id = true
    · rw [if_pos (hany.1 h2), if_pos h2]
    · rw [if_neg (fun h => h2 (hany.2 h)), if_neg h2]
      congr 1
      apply List.ext_getElem (by rw [getTo_get]; simp; omega)
      intro i h3 h4
      have hi : i < k := by simp [getTo_get] at h3; exact h3
      have hlt : i < (bitsOf b).length := by omega
      have h5 := bitsOf_get b i
      simp only [List.getD_eq_getElem?_getD, List.getElem?_eq_getElem hlt, Option.getD_some] at h5
      rw [List.getElem_take, h5]
      simp [getTo_get]

theorem put_getBits (b : List UInt8) (n : Int) (l : List Bool) (h : getBits b n = some l) : putTo l l.length = b := by
  unfold getBits at h
  split at h
  · cases h
  rename_i h1
  split at h
  · cases h
  rename_i h2
  obtain ⟨k, rfl⟩ := Int.eq_ofNat_of_zero_le (show 0 ≤ n from by omega)
  rw [Int.toNat_natCast] at h
  injection h with h
  subst h
  have hl : (getTo b k).length = k := by simp [getTo]
  refine bytes_ext _ _ (by rw [putTo_length, hl]; omega) fun i hi => ?_
  rw [putTo_length] at hi
  rw [put_bit _ i hi]
  rw [hl] at hi
  by_cases hik : i < k
  · simp [getTo_get, hik]
  · have e : (getTo b k).getD i false = false := by simp [getTo_get, hik]
    rw [e]
    symm
    rw [show ((k : Int) / 8).toNat = k / 8 from by omega, show ((k : Int) % 8).toNat = k % 8 from by omega] at h2
    have h3 : (b.getD (k / 8) 0).toNat / 2 ^ (k % 8) = 0 := by
      apply Classical.byContradiction
      intro h0
      exact h2 ⟨by omega, Nat.pos_of_ne_zero h0⟩
    unfold bitAt
    rw [show i / 8 = k / 8 from by omega]
    exact (high_zero _ _).1 h3 _ (by omega) (by omega)

theorem putTo_append (a b : List Bool) (h : a.length % 8 = 0) : putTo (a ++ b) (a ++ b).length = putTo a a.length ++ putTo b b.length := by
  refine bytes_ext _ _ (by simp only [List.length_append, putTo_length]; omega) fun i hi => ?_
  rw [putTo_length] at hi
  rw [put_bit _ i hi]
  rw [List.length_append] at hi
  unfold bitAt
  by_cases hia : i < a.length
  · have h1 := put_bit a i (by omega)
    unfold bitAt at h1
    rw [getD_app_l _ _ _ _ hia, getD_app_l _ _ _ _ (by rw [putTo_length]; omega), h1]
  · have h1 := put_bit b (i - a.length) (by omega)
    unfold bitAt at h1
    rw [getD_app_r _ _ _ _ (by omega), getD_app_r _ _ _ _ (by rw [putTo_length]; omega), putTo_length,
      show i / 8 - (a.length + 7) / 8 = (i - a.length) / 8 from by omega, show i % 8 = (i - a.length) % 8 from by omega, h1]

theorem pop_count (x : UInt8) : pop x = (bitsTo x 8).count true := by
  unfold pop bitsTo
  rw [List.count_eq_countP, List.countP_map, List.countP_eq_length_filter]
  congr 1
  apply List.filter_congr
  intro j _
  simp

theorem popAll_count (b : List UInt8) : popAll b = (bitsOf b).count true := by
  induction b with
  | nil => rfl
  | cons x b ih =>
    have e : bitsOf (x :: b) = bitsTo x 8 ++ bitsOf b := by simp [bitsOf]
    rw [e, List.count_append, ← ih, ← pop_count]
    simp [popAll]

theorem pop_put (l : List Bool) : popAll (putTo l l.length) = l.count true := by
  rw [popAll_count]
  have e : bitsOf (putTo l l.length) = l ++ List.replicate (8 * ((l.length + 7) / 8) - l.length) false := by
    apply List.ext_getElem (by rw [bitsOf_length, putTo_length]; simp; omega)
    intro i h1 h2
    have h3 := bitsOf_get (putTo l l.length) i
    simp only [List.getD_eq_getElem?_getD, List.getElem?_eq_getElem h1, Option.getD_some] at h3
    rw [bitsOf_length, putTo_length] at h1
    rw [h3, put_bit l i h1]
    by_cases hi : i < l.length
    · simp [hi]
    · rw [List.getElem_append_right (by omega)]
      simp [hi]
  rw [e, List.count_append, List.count_replicate]
  simp
end Go.Proofs.YthbipcjgpocpaaaGreat
