import Derived.Test.YthbipcjgpocpaaaGreatLawThirteen
import Derived.Test.YthbipcjgpocpaaaGreatVal
/- Layer 14, plain: what a column's bytes are, how they are chosen, and that they are read again. -/
namespace Go.Proofs.YthbipcjgpocpaaaGreat
open Go.RowKit
set_option linter.unusedSimpArgs false
set_option linter.unusedVariables false
set_option maxRecDepth 100000

def le8 (f : Nat) : List UInt8 := (List.range 8).map fun i => UInt8.ofNat (f / 2 ^ (8 * i))
def plainV (v : Va) : List UInt8 :=
  if v.k = 1 then nat7 (fold v.n) else if v.k = 2 then [UInt8.ofNat v.n.toNat] else if v.k = 3 then nat7 v.s.size ++ v.s.data.toList else le8 v.f
def plainC (L : List Va) : List UInt8 := L.flatMap plainV
def i64of (f : Nat) : Int := if f < 9223372036854775808 then (f : Int) else (f : Int) - 18446744073709551616
def u64of (x : Int) : Nat := if 0 ≤ x then x.toNat else (x + 18446744073709551616).toNat
def numV (v : Va) : Int := if v.k = 4 then i64of v.f else v.n
def numsC (L : List Va) : List Int := L.map numV
def txtsC (L : List Va) : List Tx := L.map fun v => v.s.data.toList
def okC (k : Int) (v : Va) : Bool := rightV v && (decide (v.k = k) || decide (v.k = 0))
def rightC (k : Int) (L : List Va) : Bool := decide (1 ≤ k ∧ k ≤ 4 ∧ L.length ≤ 256) && L.all (okC k)
def fullC (L : List Va) : List Va := L.filter fun v => !decide (v.k = 0)
def nullsC (L : List Va) : List Bool := L.map fun v => decide (v.k = 0)
/-- The rest by a code; none: it isn't of the kind. -/
def restC (k : Int) (L : List Va) (c : Nat) : Option (List UInt8) :=
  if c = 0 then some (plainC L)
  else if c = 1 then (if k = 3 then none else some (putRuns (numsC L)))
  else if c = 2 then (if k = 1 ∨ k = 2 then some (bitsPut (numsC L)) else none)
  else if c = 3 then (if k = 3 then some (dputL (txtsC L)) else none)
  else none
def stepC (R : Nat → Option (List UInt8)) (code i : Nat) : Nat :=
  match R i with
  | none => code
  | some r => if r.length < ((R code).getD []).length then i else code
def codeC (R : Nat → Option (List UInt8)) : Nat := stepC R (stepC R (stepC R 0 1) 2) 3
def bestC (k : Int) (L : List Va) : List UInt8 := (restC k (fullC L) (codeC (restC k (fullC L)))).getD []
def headC (k : Int) (L : List Va) : List UInt8 := nat7 L.length ++ [UInt8.ofNat k.toNat, UInt8.ofNat (codeC (restC k (fullC L)))] ++ putTo (nullsC L) (nullsC L).length
def colPut (k : Int) (L : List Va) : List UInt8 := headC k L ++ bestC k L
def sizesC (k : Int) (L : List Va) : List Int := (List.range 4).map fun c => match restC k L c with | none => -1 | some r => (r.length : Int)
def codesL (k : Int) (L : List Va) : List Int := if rightC k L = true then sizesC k (fullC L) else []

/-- Values of one kind, all right, none null. -/
structure Fu (k : Int) (L : List Va) : Prop where
  k1 : 1 ≤ k ∧ k ≤ 4
  len : L.length ≤ 256
  all : ∀ v ∈ L, rightV v = true ∧ v.k = k ∧ v.wf

theorem rightC_iff {k : Int} {L : List Va} : rightC k L = true ↔ (1 ≤ k ∧ k ≤ 4 ∧ L.length ≤ 256) ∧ ∀ v ∈ L, rightV v = true ∧ (v.k = k ∨ v.k = 0) := by
  unfold rightC okC
  simp only [Bool.and_eq_true, decide_eq_true_eq, List.all_eq_true, Bool.or_eq_true]
theorem fu_of {k : Int} {L : List Va} (h : rightC k L = true) (hw : ∀ v ∈ L, v.wf) : Fu k (fullC L) := by
  obtain ⟨h1, h2⟩ := rightC_iff.1 h
  refine ⟨⟨h1.1, h1.2.1⟩, Nat.le_trans (List.length_filter_le _ _) h1.2.2, fun v hv => ?_⟩
  obtain ⟨hv1, hv2⟩ := List.mem_filter.1 hv
  have hv3 : v.k ≠ 0 := by simpa using hv2
  exact ⟨(h2 v hv1).1, (h2 v hv1).2.resolve_right hv3, hw v hv1⟩
theorem fu_nil {k : Int} (hk : 1 ≤ k ∧ k ≤ 4) : Fu k [] := ⟨hk, by simp, fun v hv => by simp at hv⟩
theorem Fu.take {k : Int} {L : List Va} (h : Fu k L) (j : Nat) : Fu k (L.take j) := ⟨h.k1, by have := h.len; simp; omega, fun v hv => h.all v (List.mem_of_mem_take hv)⟩

/-! One value. -/
theorem right_one {v : Va} (h : rightV v = true) (hk : v.k = 1) : v = ⟨1, v.n, ByteArray.empty, 0⟩ := by
  unfold rightV at h
  rw [if_pos hk] at h
  obtain ⟨k, n, s, f⟩ := v
  simp only [decide_eq_true_eq] at h hk ⊢
  rw [hk, h.1, h.2]
theorem right_two {v : Va} (h : rightV v = true) (hk : v.k = 2) : v = ⟨2, v.n, ByteArray.empty, 0⟩ ∧ (v.n = 0 ∨ v.n = 1) := by
  unfold rightV at h
  rw [if_neg (by omega), if_pos hk] at h
  obtain ⟨k, n, s, f⟩ := v
  simp only [decide_eq_true_eq] at h hk ⊢
  rw [hk, h.1, h.2.1]
  exact ⟨rfl, h.2.2⟩
theorem right_three {v : Va} (h : rightV v = true) (hk : v.k = 3) : v = ⟨3, 0, v.s, 0⟩ ∧ v.s.size ≤ 64 := by
  unfold rightV at h
  rw [if_neg (by omega), if_neg (by omega), if_pos hk] at h
  obtain ⟨k, n, s, f⟩ := v
  simp only [decide_eq_true_eq] at h hk ⊢
  rw [hk, h.1, h.2.1]
  exact ⟨rfl, h.2.2⟩
theorem right_four {v : Va} (h : rightV v = true) (hk : v.k = 4) : v = ⟨4, 0, ByteArray.empty, v.f⟩ ∧ canon v.f = v.f := by
  unfold rightV at h
  rw [if_neg (by omega), if_neg (by omega), if_neg (by omega), if_pos hk] at h
  obtain ⟨k, n, s, f⟩ := v
  simp only [decide_eq_true_eq] at h hk ⊢
  rw [hk, h.1, h.2.1]
  exact ⟨rfl, h.2.2⟩
theorem right_null {v : Va} (h : rightV v = true) (hk : v.k = 0) : v = Va.zero := by
  unfold rightV at h
  rw [if_neg (by omega), if_neg (by omega), if_neg (by omega), if_neg (by omega)] at h
  simpa using h
theorem right_size {v : Va} (h : rightV v = true) : v.s.size ≤ 64 := by
  by_cases h3 : v.k = 3
  · exact (right_three h h3).2
  · have he : v.s = ByteArray.empty := by
      unfold rightV at h
      by_cases h1 : v.k = 1
      · rw [if_pos h1] at h; simp at h; exact h.1
      by_cases h2 : v.k = 2
      · rw [if_neg h1, if_pos h2] at h; simp at h; exact h.1
      by_cases h4 : v.k = 4
      · rw [if_neg h1, if_neg h2, if_neg h3, if_pos h4] at h; simp at h; exact h.2.1
      rw [if_neg h1, if_neg h2, if_neg h3, if_neg h4] at h
      simp at h; rw [h]; rfl
    rw [he]; exact Nat.zero_le _
theorem i64of_wf {f : Nat} (h : f < 18446744073709551616) : -9223372036854775808 ≤ i64of f ∧ i64of f ≤ 9223372036854775807 := by unfold i64of; split <;> omega
theorem wf_of {x : Int} (h : -9223372036854775808 ≤ x ∧ x ≤ 9223372036854775807) : (Lit.int .i64 x).wf = true := by
  show (decide (IntKind.i64.min ≤ x) && decide (x ≤ IntKind.i64.max)) = true
  have e1 : IntKind.i64.min = -9223372036854775808 := by decide
  have e2 : IntKind.i64.max = 9223372036854775807 := by decide
  rw [e1, e2, decide_eq_true h.1, decide_eq_true h.2]; rfl
theorem blen (s : ByteArray) : s.data.toList.length = s.size := Array.length_toList
theorem u64_i64 {f : Nat} (h : f < 18446744073709551616) : u64of (i64of f) = f := by unfold u64of i64of; split <;> split <;> omega
theorem u64of_lt {x : Int} (h : -9223372036854775808 ≤ x ∧ x ≤ 9223372036854775807) : u64of x < 18446744073709551616 := by unfold u64of; split <;> omega
theorem numV_wf {v : Va} (h : v.wf) : (Lit.int .i64 (numV v)).wf = true := by
  unfold numV
  split
  · exact wf_of (i64of_wf h.2.2)
  · exact h.2.1
theorem numsC_wf {L : List Va} (h : ∀ v ∈ L, v.wf) : ∀ x ∈ numsC L, (Lit.int .i64 x).wf = true := by
  intro x hx
  obtain ⟨v, hv, rfl⟩ := List.mem_map.1 hx
  exact numV_wf (h v hv)
theorem numsC_ints {L : List Va} (h : ∀ v ∈ L, v.wf) : Ints (numsC L) := fun x hx => wf_i64_iff (numsC_wf h x hx)
theorem numsC_len (L : List Va) : (numsC L).length = L.length := by simp [numsC]
theorem txtsC_len (L : List Va) : (txtsC L).length = L.length := by simp [txtsC]
theorem txtsC_small {k : Int} {L : List Va} (h : Fu k L) : ∀ x ∈ txtsC L, x.length ≤ 64 := by
  intro x hx
  obtain ⟨v, hv, rfl⟩ := List.mem_map.1 hx
  have := right_size (h.all v hv).1
  rw [blen]; exact this
def mkN (k x : Int) : Va := if k = 4 then ⟨k, 0, ByteArray.empty, u64of x⟩ else ⟨k, x, ByteArray.empty, 0⟩
def mkT (k : Int) (t : Tx) : Va := ⟨k, 0, ⟨t.toArray⟩, 0⟩
theorem mkN_num {k : Int} {v : Va} (h : rightV v = true) (hk : v.k = k) (hw : v.wf) (h1 : 1 ≤ k ∧ k ≤ 4) (h3 : k ≠ 3) : mkN k (numV v) = v := by
  subst hk
  unfold mkN numV
  by_cases h4 : v.k = 4
  · rw [if_pos h4, if_pos h4, u64_i64 hw.2.2, h4]
    exact (right_four h h4).1.symm
  rw [if_neg h4, if_neg h4]
  by_cases h2 : v.k = 2
  · rw [h2]; exact (right_two h h2).1.symm
  have h1' : v.k = 1 := by omega
  rw [h1']; exact (right_one h h1').symm
theorem mkN_nums {k : Int} {L : List Va} (h : Fu k L) (h3 : k ≠ 3) : (numsC L).map (mkN k) = L := by
  unfold numsC
  rw [List.map_map]
  conv => rhs; rw [← List.map_id L]
  refine List.map_congr_left fun v hv => ?_
  obtain ⟨h1, h2, hw⟩ := h.all v hv
  exact mkN_num h1 h2 hw h.k1 h3
theorem mkT_txts {L : List Va} (h : Fu 3 L) : (txtsC L).map (mkT 3) = L := by
  unfold txtsC
  rw [List.map_map]
  conv => rhs; rw [← List.map_id L]
  refine List.map_congr_left fun v hv => ?_
  obtain ⟨h1, h2, hw⟩ := h.all v hv
  have := (right_three h1 h2).1
  show (⟨3, 0, ⟨v.s.data.toList.toArray⟩, 0⟩ : Va) = v
  rw [this]

theorem le8_len (f : Nat) : (le8 f).length = 8 := by simp [le8]
theorem le8_get (f i : Nat) (h : i < 8) : (le8 f).getD i 0 = UInt8.ofNat (f / 2 ^ (8 * i)) := by
  have hl : i < (le8 f).length := by rw [le8_len]; exact h
  simp [le8, h]
theorem mod_step (f i : Nat) : f % 2 ^ (8 * (i + 1)) = f % 2 ^ (8 * i) + (f / 2 ^ (8 * i) % 256) * 2 ^ (8 * i) := by
  rw [show 8 * (i + 1) = 8 * i + 8 from by omega, Nat.pow_add, Nat.mod_mul, Nat.mul_comm (2 ^ (8 * i))]
theorem or_low (a c i : Nat) (h : a < 2 ^ i) : a ||| (c * 2 ^ i) = a + c * 2 ^ i := by
  rw [Nat.or_comm, Nat.add_comm, Nat.mul_comm]
  exact (Nat.two_pow_add_eq_or_of_lt h c).symm
theorem f64_mod {f : Nat} (h : f < 18446744073709551616) : f % 2 ^ (8 * 8) = f := Nat.mod_eq_of_lt h

theorem plainV_len {v : Va} (h : rightV v = true) (hw : v.wf) : (plainV v).length ≤ 74 := by
  unfold plainV
  split
  · have := nat7_len64 (fold v.n) (fold_lt (wf_i64_iff hw.2.1)); omega
  split
  · simp
  split
  · have h1 := right_size h
    have := nat7_len64 v.s.size (by omega)
    rw [List.length_append, blen]; omega
  · rw [le8_len]; omega
theorem plainC_len {L : List Va} (h : ∀ v ∈ L, rightV v = true ∧ v.wf) : (plainC L).length ≤ L.length * 74 := by
  induction L with
  | nil => simp [plainC]
  | cons v t ih =>
    have h1 := plainV_len (h v (by simp)).1 (h v (by simp)).2
    have h2 := ih (fun x hx => h x (by simp [hx]))
    unfold plainC at h2 ⊢
    rw [List.flatMap_cons, List.length_append, List.length_cons, Nat.add_mul]
    omega
theorem plainC_snoc (L : List Va) (v : Va) : plainC (L ++ [v]) = plainC L ++ plainV v := by simp [plainC]
theorem plainC_cons (v : Va) (L : List Va) : plainC (v :: L) = plainV v ++ plainC L := by simp [plainC]

/-! The code. -/
theorem stepC_lt {R : Nat → Option (List UInt8)} {c i : Nat} (hc : c < 4) (hi : i < 4) : stepC R c i < 4 := by
  unfold stepC; split
  · exact hc
  · split <;> assumption
theorem codeC_lt (R : Nat → Option (List UInt8)) : codeC R < 4 := stepC_lt (stepC_lt (stepC_lt (by decide) (by decide)) (by decide)) (by decide)
theorem stepC_ok {R : Nat → Option (List UInt8)} {c i : Nat} {r0 : List UInt8} (h : ∃ r, R c = some r ∧ r.length ≤ r0.length) : ∃ r, R (stepC R c i) = some r ∧ r.length ≤ r0.length := by
  obtain ⟨r, hr, hl⟩ := h
  unfold stepC
  cases hi : R i with
  | none => exact ⟨r, hr, hl⟩
  | some x =>
    simp only
    split
    · rename_i hlt
      rw [hr] at hlt
      exact ⟨x, hi, by simp at hlt; omega⟩
    · exact ⟨r, hr, hl⟩
theorem codeC_ok {R : Nat → Option (List UInt8)} {r0 : List UInt8} (h : R 0 = some r0) : ∃ r, R (codeC R) = some r ∧ r.length ≤ r0.length :=
  stepC_ok (stepC_ok (stepC_ok ⟨r0, h, Nat.le_refl _⟩))
theorem getD_lenC (o : Option (List UInt8)) : (o.getD []).length = (o.map List.length).getD 0 := by cases o <;> rfl
theorem stepC_congr {R R' : Nat → Option (List UInt8)} (h : ∀ i, (R i).map List.length = (R' i).map List.length) (c i : Nat) : stepC R c i = stepC R' c i := by
  have hc : ((R c).getD []).length = ((R' c).getD []).length := by rw [getD_lenC, getD_lenC, h]
  have hi := h i
  unfold stepC
  cases hr : R i with
  | none => cases hr' : R' i with
    | none => rfl
    | some x => rw [hr, hr'] at hi; simp at hi
  | some y => cases hr' : R' i with
    | none => rw [hr, hr'] at hi; simp at hi
    | some x =>
      rw [hr, hr'] at hi
      simp at hi
      simp only [hi, hc]
theorem codeC_congr {R R' : Nat → Option (List UInt8)} (h : ∀ i, (R i).map List.length = (R' i).map List.length) : codeC R = codeC R' := by
  unfold codeC
  rw [stepC_congr h, stepC_congr h, stepC_congr h]
theorem restC_zero (k : Int) (L : List Va) : restC k L 0 = some (plainC L) := rfl
theorem bestC_ok (k : Int) (L : List Va) : restC k (fullC L) (codeC (restC k (fullC L))) = some (bestC k L) ∧ (bestC k L).length ≤ (plainC (fullC L)).length := by
  obtain ⟨r, hr, hl⟩ := codeC_ok (restC_zero k (fullC L))
  unfold bestC
  rw [hr]
  exact ⟨rfl, hl⟩
theorem bestC_len {k : Int} {L : List Va} (h : rightC k L = true) (hw : ∀ v ∈ L, v.wf) : (bestC k L).length ≤ 18944 := by
  have hf := fu_of h hw
  have h1 := plainC_len (L := fullC L) (fun v hv => ⟨(hf.all v hv).1, (hf.all v hv).2.2⟩)
  have h2 := hf.len
  have h3 := (bestC_ok k L).2
  have h4 : (fullC L).length * 74 ≤ 256 * 74 := Nat.mul_le_mul_right _ h2
  omega
theorem nullsC_len (L : List Va) : (nullsC L).length = L.length := by simp [nullsC]
theorem nat7_len2 {n : Nat} (h : n ≤ 256) : (nat7 n).length ≤ 2 := (nat7_len 1 n (by omega)).1
theorem headC_len {k : Int} {L : List Va} : (headC k L).length = (nat7 L.length).length + 2 + (L.length + 7) / 8 := by
  unfold headC
  simp only [List.length_append, putTo_length, nullsC_len, List.length_cons, List.length_nil]
theorem colPut_len {k : Int} {L : List Va} (h : rightC k L = true) (hw : ∀ v ∈ L, v.wf) : (colPut k L).length ≤ 19000 := by
  have h1 := bestC_len h hw
  have h2 := nat7_len2 (rightC_iff.1 h).1.2.2
  have h3 := (rightC_iff.1 h).1.2.2
  unfold colPut
  rw [List.length_append, headC_len]
  omega

/-! What is read. -/
/-- r is the answer to b: a kind and right values whose bytes are b; none: there are none. -/
def ColOK (b : List UInt8) (r : Option (Int × List Va)) : Prop :=
  (∀ k L, r = some (k, L) → rightC k L = true ∧ (∀ v ∈ L, v.wf) ∧ colPut k L = b) ∧ (∀ k L, rightC k L = true → (∀ v ∈ L, v.wf) → colPut k L = b → r = some (k, L))
theorem ColOK.same {b : List UInt8} {r r' : Option (Int × List Va)} (h : ColOK b r) (h' : ColOK b r') : r = r' := by
  cases r with
  | some x =>
    obtain ⟨k, L⟩ := x
    obtain ⟨h1, h2, h3⟩ := h.1 k L rfl
    exact (h'.2 k L h1 h2 h3).symm
  | none => cases r' with
    | none => rfl
    | some x =>
      obtain ⟨k, L⟩ := x
      obtain ⟨h1, h2, h3⟩ := h'.1 k L rfl
      exact h.2 k L h1 h2 h3
theorem ColOK.none {b : List UInt8} (h : ∀ k L, rightC k L = true → (∀ v ∈ L, v.wf) → colPut k L ≠ b) : ColOK b none :=
  ⟨fun k L e => by simp at e, fun k L h1 h2 h3 => absurd h3 (h k L h1 h2)⟩
/-- r is the answer to a rest's bytes. -/
def RestOK (k : Int) (c : Nat) (b : List UInt8) (n : Nat) (r : Option (List Va)) : Prop :=
  (∀ X, r = some X → X.length = n ∧ ∀ v ∈ X, v.wf) ∧ (∀ F, Fu k F → F.length = n → restC k F c = some b → r = some F)

/-- The nulls laid among the others. -/
def merge : List Bool → List Va → List Va
  | [], _ => []
  | true :: t, X => Va.zero :: merge t X
  | false :: t, X => X.headD Va.zero :: merge t X.tail
theorem merge_full : ∀ (L : List Va), (∀ v ∈ L, rightV v = true) → merge (nullsC L) (fullC L) = L
  | [], _ => rfl
  | v :: t, h => by
    have ih := merge_full t (fun x hx => h x (by simp [hx]))
    unfold nullsC fullC at ih ⊢
    by_cases hk : v.k = 0
    · simp only [List.map_cons, hk, decide_true, List.filter_cons, Bool.not_true, Bool.false_eq_true, if_false, merge]
      rw [ih, right_null (h v (by simp)) hk]
    · simp only [List.map_cons, hk, decide_false, List.filter_cons, Bool.not_false, if_true, merge, List.headD_cons, List.tail_cons]
      rw [ih]
theorem merge_wf : ∀ (B : List Bool) (X : List Va), (∀ v ∈ X, v.wf) → ∀ v ∈ merge B X, v.wf
  | [], _, _, v, hv => by simp [merge] at hv
  | true :: t, X, h, v, hv => by
    simp only [merge, List.mem_cons] at hv
    rcases hv with rfl | hv
    · exact ⟨by decide, by decide, by decide⟩
    · exact merge_wf t X h v hv
  | false :: t, X, h, v, hv => by
    simp only [merge, List.mem_cons] at hv
    rcases hv with rfl | hv
    · cases X with
      | nil => exact ⟨by decide, by decide, by decide⟩
      | cons x t' => exact h x (by simp)
    · exact merge_wf t X.tail (fun x hx => h x (List.mem_of_mem_tail hx)) v hv
theorem merge_len : ∀ (B : List Bool) (X : List Va), (merge B X).length = B.length
  | [], _ => rfl
  | true :: t, X => by simp [merge, merge_len t X]
  | false :: t, X => by simp [merge, merge_len t X.tail]
theorem count_nulls (L : List Va) : (fullC L).length = L.length - (nullsC L).count true ∧ (nullsC L).count true ≤ L.length := by
  have h := List.count_le_length (a := true) (l := nullsC L)
  rw [nullsC_len] at h
  refine ⟨?_, h⟩
  have e : (fullC L).length + (nullsC L).count true = L.length := by
    clear h
    induction L with
    | nil => rfl
    | cons v t ih =>
      unfold fullC nullsC at ih ⊢
      by_cases hk : v.k = 0
      · simp only [List.map_cons, hk, decide_true, List.filter_cons, Bool.not_true, Bool.false_eq_true, if_false, List.count_cons, List.length_cons, beq_self_eq_true, if_true]; omega
      · simp only [List.map_cons, hk, decide_false, List.filter_cons, Bool.not_false, if_true, List.count_cons, List.length_cons, beq_iff_eq, Bool.false_eq_true, if_false]; omega
  omega

/-! The reverse order. -/
theorem good_reverse : ∀ (R : List (Int × Nat)), Good R → Good R.reverse
  | [], _ => trivial
  | r :: t, h => by
    rw [List.reverse_cons]
    obtain ⟨u, n⟩ := r
    refine good_snoc _ u n h.pos (good_reverse t h.tail) (fun x hx => ?_)
    rw [List.getLast?_reverse] at hx
    cases t with
    | nil => simp at hx
    | cons s t =>
      simp at hx
      subst hx
      exact fun e => h.2.1 e.symm
theorem expand_reverse (R : List (Int × Nat)) : expand R.reverse = (expand R).reverse := by
  induction R with
  | nil => rfl
  | cons r t ih =>
    unfold expand at ih ⊢
    rw [List.reverse_cons, List.flatMap_append, ih]
    simp
theorem runsOf_reverse (l : List Int) : runsOf l.reverse = (runsOf l).reverse := by
  have h := runsOf_expand (runsOf l).reverse (good_reverse _ (good_runsOf l))
  rw [expand_reverse, expand_runsOf] at h
  exact h
theorem flat_reverse_len {α β : Type} (f : α → List β) (l : List α) : (l.reverse.flatMap f).length = (l.flatMap f).length := by
  induction l with
  | nil => rfl
  | cons x t ih => rw [List.reverse_cons, List.flatMap_append, List.length_append, ih, List.flatMap_cons, List.length_append]; simp; omega
theorem putRuns_reverse (l : List Int) : (putRuns l.reverse).length = (putRuns l).length := by
  unfold putRuns
  rw [runsOf_reverse, List.length_append, List.length_append, flat_reverse_len, List.length_reverse]
theorem min_reverse (l : List Int) (h : l ≠ []) : Lib.minOf l.reverse = Lib.minOf l := by
  have h' : l.reverse ≠ [] := by simpa using h
  have h1 := min_le (l := l) (List.mem_reverse.1 (min_mem h'))
  have h2 := min_le (l := l.reverse) (List.mem_reverse.2 (min_mem h))
  omega
theorem max_reverse (l : List Int) (h : l ≠ []) : Lib.maxOf l.reverse = Lib.maxOf l := by
  have h' : l.reverse ≠ [] := by simpa using h
  have h1 := le_max (l := l) (List.mem_reverse.1 (max_mem h'))
  have h2 := le_max (l := l.reverse) (List.mem_reverse.2 (max_mem h))
  omega
theorem bitsPut_reverse (l : List Int) : (bitsPut l.reverse).length = (bitsPut l).length := by
  unfold bitsPut
  by_cases h : l = []
  · subst h; rfl
  rw [if_neg h, if_neg (by simpa using h)]
  have hm := min_reverse l h
  have hw : widthN l.reverse = widthN l := by unfold widthN gapN; rw [hm, max_reverse l h]
  unfold bitsTail
  rw [hm, hw, List.length_append, List.length_append, List.length_cons, List.length_cons, putTo_length, putTo_length, allBits_length, allBits_length, List.length_reverse]
theorem dputL_reverse (L : List Tx) : (dputL L.reverse).length = (dputL L).length := by
  unfold dputL
  have hw : wordsL L.reverse = wordsL L := wordsL_perm (fun x => List.mem_reverse)
  rw [hw, List.length_append, List.length_append, show atW (wordsL L) L.reverse = (atW (wordsL L) L).reverse from by simp [atW], bitsPut_reverse]
theorem rest_reverse (k : Int) (L : List Va) (c : Nat) : (restC k L.reverse c).map List.length = (restC k L c).map List.length := by
  have h1 : (plainC L.reverse).length = (plainC L).length := flat_reverse_len plainV L
  have h2 : numsC L.reverse = (numsC L).reverse := by simp [numsC]
  have h3 : txtsC L.reverse = (txtsC L).reverse := by simp [txtsC]
  unfold restC
  rw [h2, h3]
  split
  · simp [h1]
  split
  · split <;> simp [putRuns_reverse]
  split
  · split <;> simp [bitsPut_reverse]
  split
  · split <;> simp [dputL_reverse]
  · rfl
theorem full_reverse (L : List Va) : fullC L.reverse = (fullC L).reverse := by simp [fullC]
theorem right_reverse (k : Int) (L : List Va) : rightC k L.reverse = rightC k L := by simp [rightC]
theorem sizes_of (k : Int) (L : List Va) : sizesC k L = (List.range 4).map fun c => match (restC k L c).map List.length with | none => -1 | some n => (n : Int) := by
  unfold sizesC
  refine List.map_congr_left fun c _ => ?_
  cases restC k L c <;> rfl
theorem codes_reverse (k : Int) (L : List Va) : codesL k L.reverse = codesL k L := by
  unfold codesL
  rw [right_reverse, full_reverse, sizes_of, sizes_of]
  simp only [rest_reverse]
theorem bestC_length (k : Int) (L : List Va) : (bestC k L).length = ((restC k (fullC L) (codeC (restC k (fullC L)))).map List.length).getD 0 := getD_lenC _
theorem colPut_reverse (k : Int) (L : List Va) : (colPut k L.reverse).length = (colPut k L).length := by
  unfold colPut
  rw [List.length_append, List.length_append, headC_len, headC_len, List.length_reverse, bestC_length, bestC_length, full_reverse,
    codeC_congr (R := restC k (fullC L).reverse) (R' := restC k (fullC L)) (fun i => rest_reverse k (fullC L) i), rest_reverse]
end Go.Proofs.YthbipcjgpocpaaaGreat
/- Layer 14, plain: rests are read again; columns are taken apart; the first column; how long columns are. -/
namespace Go.Proofs.YthbipcjgpocpaaaGreat
open Go.RowKit
set_option linter.unusedSimpArgs false
set_option linter.unusedVariables false
set_option maxRecDepth 100000

theorem getRuns_mem {b : List UInt8} {n : Nat} {l : List Int} (h : getRuns b n = some l) : ∀ x ∈ l, fold x < 18446744073709551616 := by
  unfold getRuns at h
  cases h1 : natGo 0 0 b with
  | none => rw [h1] at h; cases h
  | some x =>
    obtain ⟨c, b1⟩ := x
    rw [h1] at h
    simp only at h
    cases h2 : getGo n c [] b1 with
    | none => rw [h2] at h; cases h
    | some y =>
      obtain ⟨o, r⟩ := y
      rw [h2] at h
      simp only at h
      split at h
      · injection h with h; subst h
        exact getGo_mem n c [] b1 o r h2 (fun x hx => by simp at hx)
      · cases h
theorem fold_in {x : Int} (h : fold x < 18446744073709551616) : -9223372036854775808 ≤ x ∧ x ≤ 9223372036854775807 := by unfold fold at h; split at h <;> omega
theorem rgetR_facts {b : List UInt8} {n : Nat} {l : List Int} (h : rgetR b (n : Int) = some l) : l.length = n ∧ ∀ x ∈ l, -9223372036854775808 ≤ x ∧ x ≤ 9223372036854775807 := by
  unfold rgetR at h
  split at h
  · cases h
  rw [Int.toNat_natCast] at h
  exact ⟨(getRuns_sound h).2, fun x hx => fold_in (getRuns_mem h x hx)⟩
theorem bitsGet_facts {b : List UInt8} {n : Nat} {l : List Int} (h : bitsGet b (n : Int) = some l) : l.length = n ∧ ∀ x ∈ l, -9223372036854775808 ≤ x ∧ x ≤ 9223372036854775807 := by
  unfold bitsGet at h
  split at h
  · cases h
  rw [Int.toNat_natCast] at h
  unfold getN at h
  split at h
  · rename_i h0
    split at h
    · injection h with h; subst h; exact ⟨h0.symm, fun x hx => by simp at hx⟩
    · cases h
  · split at h
    · cases h
    · rename_i u r _
      unfold getB at h
      split at h
      · cases h
      · split at h
        · cases h
        · split at h
          · cases h
          · unfold chk at h
            split at h
            · injection h with h; subst h; exact ⟨outOf_length _ _ _ _, outOf_ints _ _ _ _⟩
            · cases h
theorem dgetL_len {b : List UInt8} {n : Nat} {l : List Tx} (h : dgetL b (n : Int) = some l) : l.length = n := by
  unfold dgetL at h
  split at h
  · cases h
  split at h
  · cases h
  split at h
  · cases h
  unfold dgetC at h
  split at h
  · cases h
  unfold dgetW at h
  split at h
  · cases h
  rename_i hb
  split at h
  · unfold dchk at h
    split at h
    · injection h with h; subst h
      unfold outW
      rw [List.length_map]
      exact (bitsGet_facts hb).1
    · cases h
  · cases h

theorem mkN_wf {k x : Int} (hk : (Lit.int .i64 k).wf = true) (hx : -9223372036854775808 ≤ x ∧ x ≤ 9223372036854775807) : (mkN k x).wf := by
  unfold mkN
  split
  · exact ⟨hk, wf_of (x := 0) (by decide), u64of_lt hx⟩
  · exact ⟨hk, wf_of hx, show (0 : Nat) < 18446744073709551616 by decide⟩
theorem mkT_wf {k : Int} (t : Tx) (hk : (Lit.int .i64 k).wf = true) : (mkT k t).wf := ⟨hk, wf_of (x := 0) (by decide), show (0 : Nat) < 18446744073709551616 by decide⟩
theorem restOK1 {k : Int} (hk : (Lit.int .i64 k).wf = true) (b : List UInt8) (n : Nat) : RestOK k 1 b n ((rgetR b (n : Int)).map (·.map (mkN k))) := by
  refine ⟨fun X hX => ?_, fun F hF hn hb => ?_⟩
  · obtain ⟨l, hl, rfl⟩ := Option.map_eq_some_iff.1 hX
    have h := rgetR_facts hl
    exact ⟨by simpa using h.1, fun v hv => by obtain ⟨x, hx, rfl⟩ := List.mem_map.1 hv; exact mkN_wf hk (h.2 x hx)⟩
  · unfold restC at hb
    rw [if_neg (by decide), if_pos rfl] at hb
    split at hb
    · cases hb
    rename_i h3
    injection hb with hb
    have h1 := rget_put (numsC F) n (by rw [numsC_len]; exact hn) (numsC_wf fun v hv => (hF.all v hv).2.2)
    rw [hb, if_pos (by have := hF.len; omega)] at h1
    rw [h1, Option.map_some, mkN_nums hF h3]
theorem restOK2 {k : Int} (hk : (Lit.int .i64 k).wf = true) (b : List UInt8) (n : Nat) : RestOK k 2 b n ((bitsGet b (n : Int)).map (·.map (mkN k))) := by
  refine ⟨fun X hX => ?_, fun F hF hn hb => ?_⟩
  · obtain ⟨l, hl, rfl⟩ := Option.map_eq_some_iff.1 hX
    have h := bitsGet_facts hl
    exact ⟨by simpa using h.1, fun v hv => by obtain ⟨x, hx, rfl⟩ := List.mem_map.1 hv; exact mkN_wf hk (h.2 x hx)⟩
  · unfold restC at hb
    rw [if_neg (by decide), if_neg (by decide), if_pos rfl] at hb
    split at hb
    · rename_i h12
      injection hb with hb
      have h1 := bitsGet_put (l := numsC F) (numsC_ints fun v hv => (hF.all v hv).2.2) (by rw [numsC_len]; exact hF.len)
      rw [hb, numsC_len, hn] at h1
      rw [h1, Option.map_some, mkN_nums hF (by omega)]
    · cases hb
theorem restOK3 {k : Int} (hk : (Lit.int .i64 k).wf = true) (b : List UInt8) (n : Nat) : RestOK k 3 b n ((dgetL b (n : Int)).map (·.map (mkT k))) := by
  refine ⟨fun X hX => ?_, fun F hF hn hb => ?_⟩
  · obtain ⟨l, hl, rfl⟩ := Option.map_eq_some_iff.1 hX
    exact ⟨by simpa using dgetL_len hl, fun v hv => by obtain ⟨x, hx, rfl⟩ := List.mem_map.1 hv; exact mkT_wf x hk⟩
  · unfold restC at hb
    rw [if_neg (by decide), if_neg (by decide), if_neg (by decide), if_pos rfl] at hb
    split at hb
    · rename_i h3
      subst h3
      injection hb with hb
      have h1 := dgetL_put (txtsC F) (by rw [txtsC_len]; exact hF.len) (fun x hx => by have := txtsC_small hF x hx; omega)
      rw [hb, txtsC_len, hn] at h1
      rw [h1, Option.map_some, mkT_txts hF]
    · cases hb
theorem restOK_none {k : Int} {c : Nat} (b : List UInt8) (n : Nat) (h : 3 < c) : RestOK k c b n none :=
  ⟨fun X hX => by simp at hX, fun F hF hn hb => by
    unfold restC at hb
    rw [if_neg (by omega), if_neg (by omega), if_neg (by omega), if_neg (by omega)] at hb
    cases hb⟩

/-! A column taken apart. -/
theorem col_read {k : Int} {L : List Va} (h : rightC k L = true) : natGo 0 0 (colPut k L) = some (L.length, UInt8.ofNat k.toNat :: UInt8.ofNat (codeC (restC k (fullC L))) :: (putTo (nullsC L) (nullsC L).length ++ bestC k L)) := by
  have hl := (rightC_iff.1 h).1.2.2
  unfold colPut headC
  rw [List.append_assoc, List.append_assoc, natGo_put _ _ (by omega)]
  simp
theorem col_drop {k : Int} {L : List Va} : (colPut k L).drop ((nat7 L.length).length + 2) = putTo (nullsC L) (nullsC L).length ++ bestC k L := by
  unfold colPut headC
  rw [List.append_assoc, List.drop_left' (by simp)]
theorem col_nulls {k : Int} {L : List Va} : ((colPut k L).drop ((nat7 L.length).length + 2)).take ((L.length + 7) / 8) = putTo (nullsC L) (nullsC L).length := by
  rw [col_drop, List.take_left' (by rw [putTo_length, nullsC_len])]
theorem col_rest {k : Int} {L : List Va} : (colPut k L).drop ((nat7 L.length).length + 2 + (L.length + 7) / 8) = bestC k L := by
  rw [← List.drop_drop, col_drop, List.drop_left' (by rw [putTo_length, nullsC_len])]
theorem col_size {k : Int} {L : List Va} : (colPut k L).length = (nat7 L.length).length + 2 + (L.length + 7) / 8 + (bestC k L).length := by
  unfold colPut; rw [List.length_append, headC_len]
theorem kind_byte {k : Int} (h : 1 ≤ k ∧ k ≤ 4) : ((UInt8.ofNat k.toNat).toNat : Int) = k := by
  rw [ofNat_toNat (by omega)]; omega
theorem code_byte (R : Nat → Option (List UInt8)) : (UInt8.ofNat (codeC R)).toNat = codeC R := ofNat_toNat (by have := codeC_lt R; omega)

/-! The first column. -/
def five : Va := ⟨1, 5, ByteArray.empty, 0⟩
def col5 : List Va := [five, Va.zero, five]
theorem five_wf : ∀ v ∈ col5, v.wf := by
  intro v hv
  simp only [col5, List.mem_cons, List.not_mem_nil, or_false] at hv
  rcases hv with rfl | rfl | rfl <;> exact ⟨by decide, by decide, by decide⟩
theorem right5 : rightC 1 col5 = true := by decide
theorem right5' : rightC 2 col5 = false := by decide
theorem full5 : fullC col5 = [five, five] := by decide
theorem len5 : (colPut 1 col5).length = 6 := by
  have hp : plainC [five, five] = [10, 10] := by
    have h5 : nat7 (fold 5) = [10] := by rw [show fold 5 = 10 from by decide, nat7_low (by decide)]; rfl
    unfold plainC plainV five
    simp [h5]
  have hr : putRuns [5, 5] = [1, 10, 2] := (getRuns_sound (b := [1, 10, 2]) (n := 2) (l := [5, 5]) (by decide)).1
  have hb : bitsPut [5, 5] = [10, 0] := by
    unfold bitsPut
    rw [if_neg (by decide), show fold (Lib.minOf [5, 5]) = 10 by decide, nat7_low (by decide)]
    decide +kernel
  have hn : numsC [five, five] = [5, 5] := by decide
  have R0 : restC 1 [five, five] 0 = some [10, 10] := by rw [← hp]; rfl
  have R1 : restC 1 [five, five] 1 = some [1, 10, 2] := by rw [← hr, ← hn]; rfl
  have R2 : restC 1 [five, five] 2 = some [10, 0] := by rw [← hb, ← hn]; rfl
  have R3 : restC 1 [five, five] 3 = none := rfl
  have hc : codeC (restC 1 [five, five]) = 0 := by
    unfold codeC
    have s1 : stepC (restC 1 [five, five]) 0 1 = 0 := by unfold stepC; rw [R1, R0]; rfl
    have s2 : stepC (restC 1 [five, five]) 0 2 = 0 := by unfold stepC; rw [R2, R0]; rfl
    have s3 : stepC (restC 1 [five, five]) 0 3 = 0 := by unfold stepC; rw [R3]
    rw [s1, s2, s3]
  rw [col_size]
  unfold bestC
  rw [full5, hc, R0, show col5.length = 3 from rfl, nat7_low (by decide)]
  rfl

/-! How long a column is. -/
def szV (v : Va) : Nat := if v.k = 1 then 10 else if v.k = 2 then 1 else if v.k = 3 then 1 + v.s.size else if v.k = 4 then 8 else 0
theorem plainV_sz {v : Va} (h : rightV v = true) (hk : v.k ≠ 0) (hw : v.wf) : (plainV v).length ≤ szV v := by
  unfold plainV szV
  by_cases h1 : v.k = 1
  · rw [if_pos h1, if_pos h1]; exact nat7_len64 _ (fold_lt (wf_i64_iff hw.2.1))
  rw [if_neg h1, if_neg h1]
  by_cases h2 : v.k = 2
  · rw [if_pos h2, if_pos h2]; simp
  rw [if_neg h2, if_neg h2]
  by_cases h3 : v.k = 3
  · rw [if_pos h3, if_pos h3, List.length_append, nat7_low (by have := right_size h; omega), blen]; simp
  rw [if_neg h3, if_neg h3]
  by_cases h4 : v.k = 4
  · rw [if_pos h4, le8_len]; exact Nat.le_refl _
  · exfalso
    unfold rightV at h
    rw [if_neg h1, if_neg h2, if_neg h3, if_neg h4] at h
    have : v = Va.zero := by simpa using h
    rw [this] at hk
    exact hk rfl
theorem plainC_sz : ∀ (L : List Va), (∀ v ∈ L, rightV v = true ∧ v.wf) → (plainC (fullC L)).length ≤ (L.map szV).sum
  | [], _ => by simp [plainC, fullC]
  | v :: t, h => by
    have ih := plainC_sz t (fun x hx => h x (by simp [hx]))
    rw [List.map_cons, List.sum_cons]
    by_cases hk : v.k = 0
    · have e : fullC (v :: t) = fullC t := by simp [fullC, hk]
      rw [e]; omega
    · have e : fullC (v :: t) = v :: fullC t := by simp [fullC, hk]
      have h1 := plainV_sz (h v (by simp)).1 hk (h v (by simp)).2
      rw [e, plainC_cons, List.length_append]; omega
theorem colPut_sz {k : Int} {L : List Va} (h : rightC k L = true) (hw : ∀ v ∈ L, v.wf) : (colPut k L).length ≤ 4 + (L.length + 7) / 8 + (L.map szV).sum := by
  have h1 := (rightC_iff.1 h).2
  have h2 := nat7_len2 (rightC_iff.1 h).1.2.2
  have h3 := plainC_sz L (fun v hv => ⟨(h1 v hv).1, hw v hv⟩)
  have h4 := (bestC_ok k L).2
  rw [col_size]
  omega
theorem sz_sum_le {L : List Va} (h : ∀ v ∈ L, v.s.size ≤ 64) : ∀ j, ((L.take j).map szV).sum ≤ j * 65 := by
  intro j
  induction j with
  | zero => simp
  | succ j ih =>
    by_cases hj : j < L.length
    · rw [List.take_succ_eq_append_getElem hj, List.map_append, List.sum_append]
      have := h _ (List.getElem_mem hj)
      have h2 : szV L[j] ≤ 65 := by unfold szV; split; omega; split; omega; split; omega; split <;> omega
      simp only [List.map_cons, List.map_nil, List.sum_cons, List.sum_nil]
      omega
    · rw [List.take_of_length_le (by omega)] at ih ⊢
      omega
end Go.Proofs.YthbipcjgpocpaaaGreat
