/- What pages answer, in plain Lean: a write that goes well, a read of a block that has a handle. -/
import Derived.Test.YthimnkmoeonheaaDoorPageW
namespace Go.Proofs.YthimnkmoeonheaaDoor
open Go.RowKit
set_option linter.unusedSimpArgs false
set_option linter.unusedVariables false
set_option maxRecDepth 100000

theorem besS_inj {p q : PG} {a b : Int} : besS p a = besS q b ↔ p = q ∧ a = b := by
  constructor
  · intro h
    unfold besS at h
    have h1 : (besideA p a).toArray = (besideA q b).toArray := ByteArray.mk.inj h
    exact besideA_inj (by simpa using congrArg Array.toList h1)
  · rintro ⟨rfl, rfl⟩; rfl
theorem rightD_ok (n : Nat) (i : Int) (m : Nat) (h0 : 0 ≤ i) (h1 : i < n) (hm : m ≤ 16) : rightD n i m = true := by
  unfold rightD
  simp
  omega
theorem pwriteA_ok (D : DS) (A : List AE) (G : List K3) (blk : Int) (p : PG) (plain : List UInt8) (hl : D.lim = none) (h0 : 0 ≤ blk) (h1 : blk < D.K.length) (hb : ¬ badKey p.1) (hp : plain.length ≤ 65536) (hg : p.1 ∉ G) :
    pwriteA D A G blk p plain = (⟨D.K, D.W ++ [(blk.toNat, full (bytes8 (A.length + 1)))], none⟩, A ++ [(p.1, besS p blk, plain)], 0) := by
  have hs : sealA A G p.1 (besS p blk) plain = (A ++ [(p.1, besS p blk, plain)], A.length + 1, 0) := by
    unfold sealA
    rw [if_neg (fun h => h.elim hb (by omega)), if_neg hg]
  unfold pwriteA
  rw [if_neg (by omega), hs]
  simp only [if_true]
  unfold DS.write
  rw [rightD_ok _ _ _ h0 h1 (by rw [bytes8_len]; omega), hl]
  rfl
theorem preadA_h (D : DS) (A : List AE) (G : List K3) (blk : Int) (p : PG) (h : Nat) (hr : D.read blk = (full (bytes8 h), 0)) (h0 : h ≠ 0) (hh : h < 18446744073709551616) :
    preadA D A G blk p = openA A G p.1 (besS p blk) h := by
  unfold preadA
  rw [hr]
  simp only [if_true]
  rw [handle_bytes8 h hh h0]
  rfl
theorem openA_page (A : List AE) (G : List K3) (p q : PG) (blk b' : Int) (plain : List UInt8) (h : Nat) (hA : A[h - 1]? = some (q.1, besS q b', plain)) (h0 : h ≠ 0) (hG : p.1 ∉ G) :
    openA A G p.1 (besS p blk) h = if p = q ∧ blk = b' then (plain, 0) else ([], 51) := by
  unfold openA
  rw [if_neg hG, if_neg h0, hA]
  by_cases e : p = q ∧ blk = b'
  · rw [if_pos e]
    obtain ⟨rfl, rfl⟩ := e
    simp
  · rw [if_neg e]
    simp only
    rw [if_neg (fun h => e (besS_inj.1 h.2.symm))]
theorem lastW_filter_same (W : List WR) (i : Nat) (d : List UInt8) : lastW (W.filter (fun w => !decide (w.1 = i))) i d = d := by
  induction W generalizing d with
  | nil => rfl
  | cons w t ih =>
    by_cases h : w.1 = i
    · simp [h]; exact ih d
    · simp [h]
      show lastW (t.filter _) i (if w.1 = i then w.2 else d) = d
      rw [if_neg h]
      exact ih d
theorem lastW_filter_ne (W : List WR) (i j : Nat) (d : List UInt8) (h : i ≠ j) : lastW (W.filter (fun w => !decide (w.1 = i))) j d = lastW W j d := by
  induction W generalizing d with
  | nil => rfl
  | cons w t ih =>
    by_cases hw : w.1 = i
    · simp [hw]
      show lastW (t.filter _) j d = lastW t j (if w.1 = j then w.2 else d)
      rw [if_neg (by omega)]
      exact ih d
    · simp [hw]
      exact ih _
theorem read_snoc (K : List (List UInt8)) (W : List WR) (i : Nat) (b : List UInt8) (j : Nat) (hj : j < K.length) : (⟨K, W ++ [(i, b)], none⟩ : DS).read (j : Int) = if i = j then (b, 0) else (⟨K, W, none⟩ : DS).read (j : Int) := by
  unfold DS.read
  rw [if_pos (rightD_ok _ _ _ (by omega) (by show (j : Int) < (K.length : Int); omega) (by omega)), if_pos (rightD_ok _ _ _ (by omega) (by show (j : Int) < (K.length : Int); omega) (by omega))]
  simp only [reduceCtorEq, if_false]
  unfold DS.at_
  simp only [Int.toNat_natCast]
  rw [lastW_snoc]
  simp only
  split <;> rfl
theorem read_over (K : List (List UInt8)) (W : List WR) (i : Nat) (b : List UInt8) (j : Nat) (hj : j < K.length) (hb : b.length = 16) : (⟨K.set i (full b), W.filter (fun w => !decide (w.1 = i)), none⟩ : DS).read (j : Int) = if i = j then (b, 0) else (⟨K, W, none⟩ : DS).read (j : Int) := by
  have hf : full b = b := by unfold full; rw [hb]; simp
  rw [hf]
  unfold DS.read
  rw [if_pos (rightD_ok _ _ _ (by omega) (by simp; omega) (by omega)), if_pos (rightD_ok _ _ _ (by omega) (by show (j : Int) < (K.length : Int); omega) (by omega))]
  simp only [reduceCtorEq, if_false]
  unfold DS.at_
  simp only [Int.toNat_natCast]
  by_cases h : i = j
  · subst h
    rw [if_pos rfl, lastW_filter_same]
    simp [hj]
  · rw [if_neg h, lastW_filter_ne _ _ _ _ h]
    simp [List.getElem?_set, h]
theorem over_ok (D : DS) (i : Nat) (b : List UInt8) (hi : i < D.K.length) (hb : b.length ≤ 16) : D.over (i : Int) b = (⟨D.K.set i (full b), D.W.filter (fun w => !decide (w.1 = i)), D.lim⟩, 0) := by
  unfold DS.over
  rw [rightD_ok _ _ _ (by omega) (by omega) hb]
  simp
theorem pvnew (n : Nat) (w : World) (bd bv : Nat) (Fd Fv : Nat → Prop) (D : DS) (A : List AE) (G : List K3) (w1 w2 : World) (hd : Dv w1 bd Fd D) (hF : ∀ i, Fd i → w.heap.size ≤ i) (hv : VF w2 bv Fv A G) (hF2 : ∀ i, Fv i → w1.heap.size ≤ i) (hk : Keeps No w w1) (hk2 : Keeps No w1 w2) :
    ∃ F, PV w2 bd bv F D A G ∧ ∀ i, F i → w.heap.size ≤ i :=
  ⟨fun i => Fd i ∨ Fv i, ⟨Fd, Fv, hd.kept hk2, hv, fun i h1 h2 => by have := hd.lt i h1; have := hF2 i h2; omega, fun i h => .inl h, fun i h => .inr h, fun i h => h.elim (fun h => Nat.lt_of_lt_of_le (hd.lt i h) hk2.size) (hv.lt i)⟩, fun i h => h.elim (hF i) (fun h => Nat.le_trans hk.size (hF2 i h))⟩
end Go.Proofs.YthimnkmoeonheaaDoor
