/- Twelve pages whose blocks are swapped, in plain Lean. -/
import Derived.Test.YthimnkmoeonheaaDoorLawSevenB
namespace Go.Proofs.YthimnkmoeonheaaDoor
open Go.RowKit
set_option linter.unusedSimpArgs false
set_option linter.unusedVariables false
set_option maxRecDepth 100000

def p7 : PG := pgOf ⟨0, by decide⟩ ⟨7, by decide⟩ ⟨0, by decide⟩
def hd7 (i : Nat) : List UInt8 := full (bytes8 (i + 1))
theorem hd7_len (i : Nat) : (hd7 i).length = 16 := full_len _ (by rw [bytes8_len]; omega)
theorem full16 (b : List UInt8) (h : b.length = 16) : full b = b := by unfold full; rw [h]; simp
def ch7 (i : Nat) : List UInt8 := [UInt8.ofNat (97 + i)]
def A7 (k : Nat) : List AE := (List.range k).map fun (i : Nat) => ((p7.1, besS p7 ((i : Nat) : Int), ch7 i) : AE)
theorem A7_len (k : Nat) : (A7 k).length = k := by simp [A7]
theorem A7_succ (k : Nat) : A7 (k + 1) = A7 k ++ [(p7.1, besS p7 (k : Int), ch7 k)] := by simp [A7, List.range_succ]
theorem A7_get (k i : Nat) (h : i < k) : (A7 k)[i]? = some (p7.1, besS p7 (i : Int), ch7 i) := by simp [A7, h]

/-- The blocks below m are read as the handles that f tells. -/
structure Swp (D : DS) (f : Nat → Nat) (m : Nat) : Prop where
  lim : D.lim = none
  len : D.K.length = 12
  wl : D.W.length ≤ m
  rd : ∀ i : Nat, i < m → D.read (i : Int) = (hd7 (f i), 0)
theorem Swp.new : Swp ⟨List.replicate 12 (full []), [], none⟩ id 0 := ⟨rfl, rfl, by simp, fun i h => by omega⟩
theorem Swp.write {D : DS} {k : Nat} (h : Swp D id k) (hk : k < 12) : ∃ E, pwriteA D (A7 k) [] (k : Int) p7 (ch7 k) = (E, A7 (k + 1), 0) ∧ Swp E id (k + 1) := by
  obtain ⟨K, W, lim⟩ := D
  obtain ⟨h1, h2, h3, h4⟩ := h
  simp only at h1 h2 h3
  subst h1
  refine ⟨⟨K, W ++ [(k, full (bytes8 (k + 1)))], none⟩, ?_, rfl, h2, by simp; omega, fun i hi => ?_⟩
  · rw [pwriteA_ok _ (A7 k) [] k p7 (ch7 k) rfl (by omega) (by simp only; omega) (by decide) (by simp [ch7]) (by simp), A7_len, A7_succ, Int.toNat_natCast]
  · have := read_snoc K W k (hd7 k) i (by omega)
    rw [show (⟨K, W ++ [(k, full (bytes8 (k + 1)))], none⟩ : DS).read (i : Int) = _ from this]
    by_cases e : k = i
    · subst e; rw [if_pos rfl]; rfl
    · rw [if_neg e]; exact h4 i (by omega)
theorem Swp.over {D : DS} {f : Nat → Nat} (h : Swp D f 12) (i t : Nat) (hi : i < 12) : ∃ E, D.over (i : Int) (hd7 t) = (E, 0) ∧ Swp E (fun j => if j = i then t else f j) 12 := by
  obtain ⟨K, W, lim⟩ := D
  obtain ⟨h1, h2, h3, h4⟩ := h
  simp only at h1 h2 h3
  subst h1
  refine ⟨_, over_ok _ i _ (by simp only; omega) (by rw [hd7_len]; omega), rfl, by simp [h2], by have := List.length_filter_le (fun w : WR => !decide (w.1 = i)) W; simp only; omega, fun j hj => ?_⟩
  have := read_over K W i (hd7 t) j (by omega) (hd7_len t)
  rw [this]
  by_cases e : i = j
  · subst e; rw [if_pos rfl, if_pos rfl]
  · rw [if_neg e, if_neg (fun h => e h.symm)]; exact h4 j hj
theorem Swp.read {D : DS} {f : Nat → Nat} (h : Swp D f 12) (i : Nat) (hi : i < 12) (hf : f i < 12) : preadA D (A7 12) [] (i : Int) p7 = if f i = i then (ch7 i, 0) else ([], 51) := by
  rw [preadA_h _ _ _ _ _ (f i + 1) (h.rd i hi) (by omega) (by omega), openA_page _ _ p7 p7 i (f i) (ch7 (f i)) (f i + 1) (by rw [Nat.add_sub_cancel]; exact A7_get 12 (f i) hf) (by omega) (by simp)]
  by_cases e : f i = i
  · rw [if_pos ⟨rfl, by rw [e]⟩, if_pos e, e]
  · rw [if_neg (fun h => e (by have := h.2; omega)), if_neg e]
end Go.Proofs.YthimnkmoeonheaaDoor
