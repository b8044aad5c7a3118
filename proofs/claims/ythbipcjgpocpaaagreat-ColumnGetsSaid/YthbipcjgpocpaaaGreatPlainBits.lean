/- Numbers by few bits, as lists: what Put writes, what Get reads, and that the document reads the same. -/
import Derived.Test.YthbipcjgpocpaaaGreatPlainRuns
import Derived.Test.YthbipcjgpocpaaaGreatPlainTen
import Derived.Test.YthbipcjgpocpaaaGreatBitsLib
namespace Go.Proofs.YthbipcjgpocpaaaGreat
open Go.RowKit
set_option linter.unusedSimpArgs false
set_option linter.unusedVariables false

theorem foldl_min_le (zs : List Int) : ∀ a, zs.foldl min a ≤ a ∧ ∀ v ∈ zs, zs.foldl min a ≤ v := by
  induction zs with
  | nil => intro a; exact ⟨Int.le_refl _, by simp⟩
  | cons z zs ih =>
    intro a
    obtain ⟨h1, h2⟩ := ih (min a z)
    simp only [List.foldl_cons]
    refine ⟨by omega, fun v hv => ?_⟩
    rcases List.mem_cons.1 hv with rfl | hv
    · omega
    · exact h2 v hv
theorem foldl_max_le (zs : List Int) : ∀ a, a ≤ zs.foldl max a ∧ ∀ v ∈ zs, v ≤ zs.foldl max a := by
  induction zs with
  | nil => intro a; exact ⟨Int.le_refl _, by simp⟩
  | cons z zs ih =>
    intro a
    obtain ⟨h1, h2⟩ := ih (max a z)
    simp only [List.foldl_cons]
    refine ⟨by omega, fun v hv => ?_⟩
    rcases List.mem_cons.1 hv with rfl | hv
    · omega
    · exact h2 v hv
theorem foldl_min_mem (zs : List Int) : ∀ a, zs.foldl min a = a ∨ zs.foldl min a ∈ zs := by
  induction zs with
  | nil => intro a; exact .inl rfl
  | cons z zs ih =>
    intro a
    simp only [List.foldl_cons]
    rcases ih (min a z) with h | h
    · rw [h]
      by_cases hz : z ≤ a
      · exact .inr (by rw [Int.min_eq_right hz]; simp)
      · exact .inl (Int.min_eq_left (by omega))
    · exact .inr (List.mem_cons_of_mem _ h)
theorem foldl_max_mem (zs : List Int) : ∀ a, zs.foldl max a = a ∨ zs.foldl max a ∈ zs := by
  induction zs with
  | nil => intro a; exact .inl rfl
  | cons z zs ih =>
    intro a
    simp only [List.foldl_cons]
    rcases ih (max a z) with h | h
    · rw [h]
      by_cases hz : a ≤ z
      · exact .inr (by rw [Int.max_eq_right hz]; simp)
      · exact .inl (Int.max_eq_left (by omega))
    · exact .inr (List.mem_cons_of_mem _ h)
theorem min_le {l : List Int} {v : Int} (h : v ∈ l) : Lib.minOf l ≤ v := (foldl_min_le l _).2 v h
theorem le_max {l : List Int} {v : Int} (h : v ∈ l) : v ≤ Lib.maxOf l := (foldl_max_le l _).2 v h
theorem min_mem {l : List Int} (h : l ≠ []) : Lib.minOf l ∈ l := by
  cases l with
  | nil => exact absurd rfl h
  | cons z zs =>
    rcases foldl_min_mem (z :: zs) ((z :: zs).headD 0) with e | e
    · unfold Lib.minOf; rw [e]; simp
    · exact e
theorem max_mem {l : List Int} (h : l ≠ []) : Lib.maxOf l ∈ l := by
  cases l with
  | nil => exact absurd rfl h
  | cons z zs =>
    rcases foldl_max_mem (z :: zs) ((z :: zs).headD 0) with e | e
    · unfold Lib.maxOf; rw [e]; simp
    · exact e

/-- The numbers are int's. -/
def Ints (l : List Int) : Prop := ∀ v ∈ l, -9223372036854775808 ≤ v ∧ v ≤ 9223372036854775807
def gapN (l : List Int) : Nat := (Lib.maxOf l - Lib.minOf l).toNat
def widthN (l : List Int) : Nat := Lib.bitLen (gapN l)
def lowBits (w u : Nat) : List Bool := (List.range w).map u.testBit
def allBits (w : Nat) (least : Int) (l : List Int) : List Bool := l.flatMap fun v => lowBits w (v - least).toNat
def bitsTail (l : List Int) : List UInt8 := UInt8.ofNat (widthN l) :: putTo (allBits (widthN l) (Lib.minOf l) l) (allBits (widthN l) (Lib.minOf l) l).length
def bitsPut (l : List Int) : List UInt8 := if l = [] then [] else nat7 (fold (Lib.minOf l)) ++ bitsTail l

theorem gap_lt {l : List Int} (h : Ints l) (hl : l ≠ []) : gapN l < 18446744073709551616 := by
  have h1 := h _ (min_mem hl); have h2 := h _ (max_mem hl)
  unfold gapN; omega
theorem diff_le {l : List Int} {v : Int} (hv : v ∈ l) : (v - Lib.minOf l).toNat ≤ gapN l := by
  have := min_le hv; have := le_max hv
  unfold gapN; omega
theorem lt_bitLenAux : ∀ (f x : Nat), x < 2 ^ f → x < 2 ^ Lib.bitLenAux f x := by
  intro f
  induction f with
  | zero => intro x h; simpa [Lib.bitLenAux] using h
  | succ f ih =>
    intro x h
    simp only [Lib.bitLenAux]
    split
    · rename_i h0; rw [h0]; decide
    · have := ih (x / 2) (by rw [Nat.pow_succ] at h; omega)
      rw [Nat.add_comm, Nat.pow_succ]; omega
theorem lt_bitLen {x : Nat} (h : x < 18446744073709551616) : x < 2 ^ Lib.bitLen x := lt_bitLenAux 64 x h
theorem width_le {l : List Int} (h : Ints l) (hl : l ≠ []) : widthN l ≤ 64 := Lib.bitLen_le _ 64 (Nat.le_refl _) (gap_lt h hl)
theorem diff_lt {l : List Int} {v : Int} (h : Ints l) (hv : v ∈ l) : (v - Lib.minOf l).toNat < 2 ^ widthN l :=
  Nat.lt_of_le_of_lt (diff_le hv) (lt_bitLen (gap_lt h (List.ne_nil_of_mem hv)))

theorem lowBits_length (w u : Nat) : (lowBits w u).length = w := by simp [lowBits]
theorem allBits_length (w : Nat) (least : Int) (l : List Int) : (allBits w least l).length = l.length * w := by
  induction l with
  | nil => simp [allBits]
  | cons v l ih =>
    have e : allBits w least (v :: l) = lowBits w (v - least).toNat ++ allBits w least l := by simp [allBits]
    rw [e, List.length_append, lowBits_length, ih, List.length_cons, Nat.add_mul]; omega
theorem lowBits_succ (w u : Nat) : lowBits (w + 1) u = lowBits w u ++ [u.testBit w] := by simp [lowBits, List.range_succ]
theorem allBits_snoc (w : Nat) (least : Int) (l : List Int) (v : Int) : allBits w least (l ++ [v]) = allBits w least l ++ lowBits w (v - least).toNat := by simp [allBits]
theorem allBits_drop (w : Nat) (least : Int) (l : List Int) : ∀ i (h : i < l.length), ((allBits w least l).drop (i * w)).take w = lowBits w (l[i] - least).toNat := by
  induction l with
  | nil => intro i h; simp at h
  | cons v l ih =>
    intro i h
    have e : allBits w least (v :: l) = lowBits w (v - least).toNat ++ allBits w least l := by simp [allBits]
    rw [e]
    cases i with
    | zero => simp [lowBits_length]
    | succ i =>
      have h2 : (i + 1) * w = (lowBits w (v - least).toNat).length + i * w := by rw [lowBits_length, Nat.add_mul]; omega
      rw [h2, List.drop_append]
      rw [List.drop_eq_nil_of_le (by omega), List.nil_append, Nat.add_sub_cancel_left]
      have := ih i (by simpa using h)
      simpa using this
theorem val_lowBits (w u : Nat) (h : u < 2 ^ w) : val (lowBits w u) = u := by
  apply Nat.eq_of_testBit_eq
  intro i
  rw [val_bit]
  by_cases hi : i < w
  · simp [lowBits, hi]
  · rw [getD_ge _ _ _ (by rw [lowBits_length]; omega), Nat.testBit_lt_two_pow (Nat.lt_of_lt_of_le h (Nat.pow_le_pow_right (by decide) (by omega)))]

def valAt (all : List Bool) (w i : Nat) : Nat := val ((all.drop (i * w)).take w)
def outOf (least : Int) (w n : Nat) (all : List Bool) : List Int := (List.range n).map fun i => wrap64 (least + (valAt all w i : Int))
theorem outOf_length (least : Int) (w n : Nat) (all : List Bool) : (outOf least w n all).length = n := by simp [outOf]
theorem outOf_take (least : Int) (w n : Nat) (all : List Bool) : outOf least w n (all.take (n * w)) = outOf least w n all := by
  unfold outOf valAt
  apply List.map_congr_left
  intro i hi
  have hi := List.mem_range.1 hi
  have : i * w + w ≤ n * w := by
    have := Nat.mul_le_mul_right w (show i + 1 ≤ n by omega)
    rw [Nat.add_mul] at this; omega
  rw [List.drop_take, List.take_take, Nat.min_eq_left (by omega)]
theorem wrap64_id {x : Int} (h : -9223372036854775808 ≤ x ∧ x ≤ 9223372036854775807) : wrap64 x = x := by unfold wrap64; omega
theorem wrap64_in (x : Int) : -9223372036854775808 ≤ wrap64 x ∧ wrap64 x ≤ 9223372036854775807 := by unfold wrap64; omega
theorem outOf_ints (least : Int) (w n : Nat) (all : List Bool) : Ints (outOf least w n all) := by
  intro v hv
  obtain ⟨i, _, rfl⟩ := List.mem_map.1 hv
  exact wrap64_in _
theorem outOf_all {l : List Int} (h : Ints l) : outOf (Lib.minOf l) (widthN l) l.length (allBits (widthN l) (Lib.minOf l) l) = l := by
  apply List.ext_getElem (by rw [outOf_length])
  intro i h1 h2
  have hv : l[i] ∈ l := List.getElem_mem _
  have hd := diff_lt h hv
  have hm := min_le hv
  have hx := h _ hv
  simp only [outOf, List.getElem_map, List.getElem_range]
  unfold valAt
  rw [allBits_drop _ _ _ i h2, val_lowBits _ _ hd]
  rw [show Lib.minOf l + ((l[i] - Lib.minOf l).toNat : Int) = l[i] from by omega, wrap64_id hx]


/-- What Get reads behind the least one and the width. -/
def chk (b : List UInt8) (out : List Int) : Option (List Int) := if bitsPut out = b then some out else none
def getB (b : List UInt8) (n u : Nat) : List UInt8 → Option (List Int)
  | [] => none
  | c :: rest => if 64 < c.toNat then none else
    match getBits rest ((n * c.toNat : Nat) : Int) with
    | none => none
    | some all => chk b (outOf (unfoldN u) c.toNat n all)
def refB (b : List UInt8) (n u : Nat) : List UInt8 → Option (List Int)
  | [] => none
  | c :: rest => if 64 < c.toNat then none else if (bitsOf rest).length < n * c.toNat then none else chk b (outOf (unfoldN u) c.toNat n (bitsOf rest))
def getN (b : List UInt8) (n : Nat) (f : Nat → List UInt8 → Option (List Int)) : Option (List Int) :=
  if n = 0 then if b = [] then some [] else none else match natGo 0 0 b with | none => none | some (u, r) => f u r
def bitsGet (b : List UInt8) (n : Int) : Option (List Int) := if n < 0 ∨ 256 < n then none else getN b n.toNat (getB b n.toNat)
def refBitsGet (b : List UInt8) (n : Int) : Option (List Int) := if n < 0 ∨ 256 < n then none else getN b n.toNat (refB b n.toNat)

theorem natGo_put (v : Nat) (r : List UInt8) (h : v < 18446744073709551616) : natGo 0 0 (nat7 v ++ r) = some (v, r) := by
  have := natGo_nat7 v v 0 0 r (Nat.le_refl _) (by simpa using h) (by omega)
  simpa using this
theorem ofNat_toNat {k : Nat} (h : k < 256) : (UInt8.ofNat k).toNat = k := by simp; omega

/-- Bytes that Put wrote for 'out' are taken apart in one way only. -/
theorem apart {out : List Int} (hi : Ints out) (hn : out ≠ []) {b r : List UInt8} {u : Nat} (hg : natGo 0 0 b = some (u, r)) (hb : bitsPut out = b) : u = fold (Lib.minOf out) ∧ r = bitsTail out := by
  unfold bitsPut at hb
  rw [if_neg hn] at hb
  have hf := fold_lt (hi _ (min_mem hn))
  rw [← hb, natGo_put _ _ hf] at hg
  injection hg with hg; injection hg with h1 h2
  exact ⟨h1.symm, h2.symm⟩

theorem getB_ref (b : List UInt8) (n u : Nat) (r : List UInt8) (hn : 0 < n) (hg : natGo 0 0 b = some (u, r)) : getB b n u r = refB b n u r := by
  cases r with
  | nil => rfl
  | cons c rest =>
    unfold getB refB
    simp only
    by_cases hc : 64 < c.toNat
    · rw [if_pos hc, if_pos hc]
    rw [if_neg hc, if_neg hc]
    cases hgb : getBits rest ((n * c.toNat : Nat) : Int) with
    | some all =>
      simp only
      rw [getBits_ref] at hgb
      unfold refGet at hgb
      split at hgb
      · cases hgb
      rename_i h1
      split at hgb
      · cases hgb
      injection hgb with hgb
      rw [Int.toNat_natCast] at hgb
      rw [if_neg (by omega), ← hgb, outOf_take]
    | none =>
      simp only
      split
      · rfl
      rename_i hL
      unfold chk
      rw [if_neg]
      intro hb
      have hne : outOf (unfoldN u) c.toNat n (bitsOf rest) ≠ [] := fun e => by
        have := outOf_length (unfoldN u) c.toNat n (bitsOf rest); rw [e] at this; simp at this; omega
      have hI := outOf_ints (unfoldN u) c.toNat n (bitsOf rest)
      obtain ⟨h1, h2⟩ := apart hI hne hg hb
      have hlen := outOf_length (unfoldN u) c.toNat n (bitsOf rest)
      generalize outOf (unfoldN u) c.toNat n (bitsOf rest) = out at hb hne hI h1 h2 hlen
      unfold bitsTail at h2
      injection h2 with h3 h4
      have hw := width_le hI hne
      have hcw : c.toNat = widthN out := by rw [h3, ofNat_toNat (by omega)]
      have hal := allBits_length (widthN out) (Lib.minOf out) out
      have := getBits_put (allBits (widthN out) (Lib.minOf out) out)
      rw [← h4, hal, hlen, ← hcw, hgb] at this
      cases this

theorem bitsGet_ref (b : List UInt8) (n : Int) : bitsGet b n = refBitsGet b n := by
  unfold bitsGet refBitsGet
  split
  · rfl
  unfold getN
  split
  · rfl
  rename_i h0
  cases hg : natGo 0 0 b with
  | none => rfl
  | some x => obtain ⟨u, r⟩ := x; exact getB_ref b n.toNat u r (by omega) hg

theorem bitsGet_put {l : List Int} (h : Ints l) (hl : l.length ≤ 256) : bitsGet (bitsPut l) (l.length : Int) = some l := by
  unfold bitsGet
  rw [if_neg (by omega), Int.toNat_natCast]
  unfold getN
  by_cases hne : l = []
  · subst hne; rfl
  have hpos : 0 < l.length := List.length_pos_iff.2 hne
  rw [if_neg (by omega)]
  have hf := fold_lt (h _ (min_mem hne))
  have hput : bitsPut l = nat7 (fold (Lib.minOf l)) ++ bitsTail l := by unfold bitsPut; rw [if_neg hne]
  have hg : natGo 0 0 (bitsPut l) = some (fold (Lib.minOf l), bitsTail l) := by rw [hput]; exact natGo_put _ _ hf
  rw [hg]
  simp only
  unfold bitsTail getB
  simp only
  have hw := width_le h hne
  rw [ofNat_toNat (show widthN l < 256 by omega), if_neg (by omega)]
  have hal := allBits_length (widthN l) (Lib.minOf l) l
  have hgb := getBits_put (allBits (widthN l) (Lib.minOf l) l)
  rw [hal] at hgb
  rw [hal, hgb]
  simp only
  rw [unfold_fold, outOf_all h]
  unfold chk
  rw [if_pos rfl]

theorem bitsGet_long {b : List UInt8} {n : Int} (h : 256 < n) : bitsGet b n = none := by unfold bitsGet; rw [if_pos (.inr h)]

/-- Numbers that are all moved by as much. -/
theorem min_moved (l : List Int) (d : Int) (hl : l ≠ []) : Lib.minOf (l.map (· + d)) = Lib.minOf l + d := by
  have hl' : l.map (· + d) ≠ [] := by simpa using hl
  obtain ⟨v, hv, e⟩ := List.mem_map.1 (min_mem hl')
  have h1 := min_le hv
  have h2 := min_le (List.mem_map.2 ⟨_, min_mem hl, rfl⟩ : Lib.minOf l + d ∈ l.map (· + d))
  omega
theorem max_moved (l : List Int) (d : Int) (hl : l ≠ []) : Lib.maxOf (l.map (· + d)) = Lib.maxOf l + d := by
  have hl' : l.map (· + d) ≠ [] := by simpa using hl
  obtain ⟨v, hv, e⟩ := List.mem_map.1 (max_mem hl')
  have h1 := le_max hv
  have h2 := le_max (List.mem_map.2 ⟨_, max_mem hl, rfl⟩ : Lib.maxOf l + d ∈ l.map (· + d))
  omega
theorem tail_moved (l : List Int) (d : Int) (hl : l ≠ []) : bitsTail (l.map (· + d)) = bitsTail l := by
  have hg : gapN (l.map (· + d)) = gapN l := by unfold gapN; rw [min_moved l d hl, max_moved l d hl]; congr 1; omega
  have hw : widthN (l.map (· + d)) = widthN l := by unfold widthN; rw [hg]
  have ha : allBits (widthN l) (Lib.minOf l + d) (l.map (· + d)) = allBits (widthN l) (Lib.minOf l) l := by
    unfold allBits
    rw [List.flatMap_map]
    congr 1
    funext v
    congr 2
    omega
  unfold bitsTail
  rw [hw, min_moved l d hl, ha]
end Go.Proofs.YthbipcjgpocpaaaGreat
