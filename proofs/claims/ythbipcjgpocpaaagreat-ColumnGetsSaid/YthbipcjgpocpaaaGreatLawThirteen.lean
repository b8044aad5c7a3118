/- The walks of the statements on dicts: first, DictPuts, DictGets. -/
import Derived.Test.YthbipcjgpocpaaaGreatRefDictG
import Derived.Test.YthbipcjgpocpaaaGreatLawEleven
namespace Go.Proofs.YthbipcjgpocpaaaGreat
open Go.RowKit
set_option linter.unusedSimpArgs false
set_option linter.unusedVariables false
set_option maxRecDepth 100000

theorem DGetPost.outOk {r : Option (List Tx)} {l : List Tx} {w w' : World} {e : Ending} (h : DGetPost r w e w') (hr : r = some l) : ∃ a c, e = .returned (.tuple #[.slice a l.length c, .bool true]) ∧ Sl w' a l.length c (l.map txV) ∧ Keeps No w w' := by
  subst hr
  obtain ⟨v, rfl, ho, hk⟩ := h
  obtain ⟨a, c, rfl, hs, _⟩ := Sl.ofOwn ho
  exact ⟨a, c, rfl, hs, hk⟩
theorem DGetPost.outNo {r : Option (List Tx)} {w w' : World} {e : Ending} (h : DGetPost r w e w') (hr : r = none) : e = .returned (.tuple #[.slice none 0 0, .bool false]) ∧ Keeps No w w' := by
  subst hr; exact h
theorem bitsPut_len (L : List Int) (h : Ints L) (hn : L.length ≤ 1000) : (bitsPut L).length ≤ 9000 := by
  unfold bitsPut
  split
  · simp
  rename_i hne
  have h1 := nat7_len64 (fold (Lib.minOf L)) (fold_lt (h _ (min_mem hne)))
  have h2 := width_le h hne
  have h3 : L.length * widthN L ≤ 1000 * 64 := Nat.mul_le_mul hn h2
  have e : (bitsTail L).length = 1 + (L.length * widthN L + 7) / 8 := by
    unfold bitsTail
    rw [List.length_cons, putTo_length, allBits_length]
    omega
  rw [List.length_append, e]
  omega
theorem dputL_len (L : List Tx) (m : Nat) (hn : L.length ≤ 1000) (hL : ∀ x ∈ L, x.length ≤ m) (hm : m ≤ 1000000) : (dputL L).length ≤ 9010 + L.length * (m + 10) := by
  have h1 := wordsL_len L
  have h2 := encW_len (wordsL L) m (fun x hx => hL x ((wordsL_mem L x).1 hx)) hm
  have h3 := nat7_len64 (wordsL L).length (by omega)
  have h4 := bitsPut_len (atW (wordsL L) L) (atW_ints _ _ (by omega)) (by simpa [atW] using hn)
  have h5 : (wordsL L).length * (m + 10) ≤ L.length * (m + 10) := Nat.mul_le_mul_right _ h1
  unfold dputL headW
  simp only [List.length_append]
  omega
theorem dget_put (L : List Tx) (n : Nat) (hn : L.length = n) (hL : ∀ x ∈ L, x.length ≤ 1000000) : dgetL (dputL L) (n : Int) = if n ≤ 256 then some L else none := by
  by_cases h : n ≤ 256
  · rw [if_pos h, ← hn]; exact dgetL_put L (by omega) hL
  · rw [if_neg h]; unfold dgetL; rw [if_pos (.inr (by omega))]
theorem bits13 : bitsPut [1, 0, 1] = [0, 1, 5] := by
  unfold bitsPut
  rw [if_neg (by decide), show fold (Lib.minOf [1, 0, 1]) = 0 by decide, nat7_low (by decide)]
  decide +kernel
theorem words13 : wordsL [[98], [97], [98]] = [[97], [98]] := by decide
theorem words13' : wordsL [[97], [98], [97]] = [[97], [98]] := by decide
theorem put13 : dputL [[98], [97], [98]] = [2, 1, 97, 1, 98, 0, 1, 5] := by
  unfold dputL
  rw [words13, show atW [[97], [98]] [[98], [97], [98]] = [1, 0, 1] by decide, bits13]
  unfold headW encW
  simp [nat7_low]
theorem put13' : (dputL [[97], [98], [97]]).take 3 = [2, 1, 97] := by
  unfold dputL
  rw [words13']
  unfold headW encW
  simp [nat7_low]
theorem get13_yes : dgetL [2, 1, 97, 1, 98, 0, 1, 5] 3 = some [[98], [97], [98]] := by
  have := dgetL_put [[98], [97], [98]] (by decide) (by simp)
  rw [put13] at this
  exact this
theorem get13_no : dgetL [2, 1, 98, 1, 97, 0, 1, 5] 3 = none := by
  have hg : natGo 0 0 [2, 1, 98, 1, 97, 0, 1, 5] = some (2, [1, 98, 1, 97, 0, 1, 5]) := by first | decide | decide +kernel
  have hr : rdTexts 2 [1, 98, 1, 97, 0, 1, 5] = some ([[98], [97]], [0, 1, 5]) := by first | decide | decide +kernel
  have hb : bitsGet [0, 1, 5] 3 = some [1, 0, 1] := by
    have := bitsGet_put (l := [1, 0, 1]) (fun v hv => by simp at hv; omega) (by decide)
    rw [bits13] at this
    exact this
  unfold dgetL
  rw [if_neg (by decide), hg]
  simp only
  rw [if_neg (by decide)]
  unfold dgetC
  rw [hr]
  simp only
  unfold dgetW
  rw [hb]
  simp only
  rw [if_pos (by decide), show outW [[98], [97]] [1, 0, 1] = [[97], [98], [97]] by decide]
  unfold dchk
  rw [if_neg]
  intro h
  have := put13'
  rw [h] at this
  exact absurd this (by decide)

end Go.Proofs.YthbipcjgpocpaaaGreat
