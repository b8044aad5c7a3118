/- The walks of the document's answer for runs: Get, Same. -/
import Derived.Test.YthbipcjgpocpaaaRefRuns
import Derived.Test.YthbipcjgpocpaaaRunsG
import Derived.BigQuiet
namespace Go.Proofs.Ythbipcjgpocpaaa
open Go.RowKit
set_option linter.unusedSimpArgs false
set_option linter.unusedVariables false

set_option maxHeartbeats 1000000 in
theorem rsame_any (a : Option Addr) (n c : Nat) (l : List Int) (a' : Option Addr) (n' c' : Nat) (l' : List Int) (w : World) (hs : Sl w a n c (l.map intV)) (hs' : Sl w a' n' c' (l'.map intV))
    (hn : n ≤ 140737488351232) (hn' : n' ≤ 140737488351232) :
    Calls Try.prog 26 #[.slice a n c, .slice a' n' c'] w fun e w' => e = .returned (.bool (decide (l = l'))) ∧ Keeps No w w' := by
  have hlen : l.length = n := by simpa using hs.len
  have hlen' : l'.length = n' := by simpa using hs'.len
  by_cases hnn : n = n'
  · subst hnn
    go_enter Try.func26, Try.ntmps26
    go_wp2_with fail
    go_loopg [13] n (fun q i wr => ∃ j : Nat, j ≤ n ∧ q = n - j ∧ i = .int .i64 j ∧ l.take j = l'.take j ∧ Keeps No w wr)
    case atStart => exact ⟨0, Nat.zero_le _, rfl, rfl, rfl, Keeps.refl _ _⟩
    case round =>
      obtain ⟨j, hj, hq, rfl, hsame, hkr⟩ := hrel
      have Hs := Lib.hid hsame
      have Hq := Lib.hid hq
      clear hsame hq
      by_cases hlt : j < n
      · have hjl : j < l.length := by omega
        have hjl' : j < l'.length := by omega
        have hix := hs.ix (P := Try.prog) Try.underlying41 (by kernel_rfl) hlt .i64
        have hc := (hs.kept hkr).at_ hlt
        have hix' := hs'.ix (P := Try.prog) Try.underlying41 (by kernel_rfl) hlt .i64
        have hc' := (hs'.kept hkr).at_ hlt
        obtain ⟨t, ht⟩ : ∃ t, t = l[j] := ⟨_, rfl⟩
        obtain ⟨t', ht'⟩ : ∃ t, t = l'[j] := ⟨_, rfl⟩
        have hb : (l.map intV).getD j undef = .int .i64 t := by rw [ht]; simp [hjl, intV]
        have hb' : (l'.map intV).getD j undef = .int .i64 t' := by rw [ht']; simp [hjl', intV]
        rw [hb] at hc
        rw [hb'] at hc'
        have Ht := Lib.hid ht
        have Ht' := Lib.hid ht'
        clear hb hb' ht ht'
        by_cases htt : t = t'
        · subst htt
          have hne : (t != t) = false := by simp
          go_wp2_with fail
          go_quiet (fail)
          go_wp2_with fail
          go_roundg (n - (j + 1))
          case rel => exact ⟨j + 1, by omega, rfl, by go_num, by rw [List.take_succ_eq_append_getElem hjl, List.take_succ_eq_append_getElem hjl', Hs.out, ← Ht.out, ← Ht'.out], hkr.drewN _⟩
          case measure => have := Hq.out; omega
        · have hne : (t != t') = true := by simp [htt]
          have Htt := Lib.hid htt
          clear htt
          go_wp2_with fail
          go_quiet (fail)
          go_wp2_with fail
          go_ret
          exact ⟨ret_bool (by symm; rw [decide_eq_false_iff_not]; intro h; subst h; rw [← Ht'.out] at Ht; exact Htt.out Ht.out), hkr.drewN _⟩
      · obtain rfl : n = j := by omega
        have hll : l = l' := by have := Hs.out; rwa [List.take_of_length_le (by omega), List.take_of_length_le (by omega)] at this
        have Hll := Lib.hid hll
        clear hll
        go_wp2_with fail
        go_ret
        exact ⟨ret_bool (by simp [Hll.out]), hkr⟩
  · have hll : ¬ l = l' := by intro h; rw [h] at hlen; omega
    have Hll := Lib.hid hll
    have hb : ((n : Int) != (n' : Int)) = true := by rw [bne_iff_ne]; omega
    clear hll
    go_enter Try.func26, Try.ntmps26
    go_wp2_with fail
    go_ret
    exact ⟨ret_bool (by simp [Hll.out]), Keeps.refl _ _⟩

theorem readP_none {b : List UInt8} (h : natGo 0 0 b = none) : readP b = (0, 0) := by unfold readP; rw [h]; rfl
theorem readP_some {b r : List UInt8} {v : Nat} (h : natGo 0 0 b = some (v, r)) : (readP b).1 = v ∧ 0 < (readP b).2 ∧ (readP b).2 ≤ b.length ∧ r = b.drop (readP b).2 := by
  have h1 := (natGo_lt64 h).2
  have h2 := natGo_nat h
  have h3 : readP b = (v, b.length - r.length) := by unfold readP; rw [h]; rfl
  rw [h3]
  refine ⟨rfl, by simp; omega, by simp, ?_⟩
  have h4 : b.length - r.length = (nat7 v).length := by rw [h2]; simp
  simp only [h4]
  conv => rhs; rw [h2]
  simp

theorem refGo_fuel (n : Nat) : ∀ f f' out r, r.length < f → r.length < f' → refGo n f out r = refGo n f' out r := by
  intro f
  induction f with
  | zero => intro f' out r h; omega
  | succ f ih =>
    intro f' out r h h'
    obtain ⟨f', rfl⟩ : ∃ q, f' = q + 1 := ⟨f' - 1, by omega⟩
    unfold refGo
    split
    · rfl
    cases h1 : natGo 0 0 r with
    | none => rfl
    | some x1 =>
      obtain ⟨u, r1⟩ := x1
      simp only
      cases h2 : natGo 0 0 r1 with
      | none => rfl
      | some x2 =>
        obtain ⟨q, r2⟩ := x2
        simp only
        split
        · rfl
        split
        · rfl
        · have := (natGo_lt64 h1).2
          have := (natGo_lt64 h2).2
          exact ih _ _ _ (by omega) (by omega)
def refFin (N : Nat) (b : List UInt8) : Option (List Int) → Option (List Int)
  | none => none
  | some out => if out.length = N ∧ putRuns out = b then some out else none
theorem refGetN_fin (b : List UInt8) (N : Nat) : refGetN b N = match natGo 0 0 b with | none => none | some (_, r) => refFin N b (refGo N (b.length + 1) [] r) := by
  unfold refGetN
  cases natGo 0 0 b with
  | none => rfl
  | some x =>
    obtain ⟨c, b1⟩ := x
    simp only
    cases refGo N (b.length + 1) [] b1 with
    | none => rfl
    | some y => rfl

end Go.Proofs.Ythbipcjgpocpaaa
