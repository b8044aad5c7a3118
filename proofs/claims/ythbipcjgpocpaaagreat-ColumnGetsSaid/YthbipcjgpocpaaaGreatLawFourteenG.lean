/- The walk of the statement ColumnGets. -/
import Derived.Test.YthbipcjgpocpaaaGreatLawFourteen
import Derived.Test.YthbipcjgpocpaaaGreatRefColG
namespace Go.Proofs.YthbipcjgpocpaaaGreat
open Go.RowKit
set_option linter.unusedSimpArgs false
set_option linter.unusedVariables false
set_option maxRecDepth 100000

theorem ColGetPost.cases {b : List UInt8} {w w' : World} {e : Ending} (h : ColGetPost b w e w') : ∃ (r : Option (Int × List Va)) (k : Int) (a : Option Addr) (c : Nat) (L : List Va) (B : Bool), ColOK b r ∧ e = .returned (.tuple #[.int .i64 k, .slice a L.length c, .bool B]) ∧ SlK w' 4 a L.length c (L.map Va.cells) ∧ Keeps No w w' ∧ ((r = none ∧ k = 0 ∧ L = [] ∧ B = false) ∨ (r = some (k, L) ∧ B = true)) := by
  obtain ⟨r, hok, hk, ⟨rfl, rfl⟩ | ⟨k, L, v, rfl, rfl, ho⟩⟩ := h
  · exact ⟨none, 0, _, _, [], false, hok, rfl, SlK.none _ _, hk, .inl ⟨rfl, rfl, rfl, rfl⟩⟩
  · obtain ⟨a, c, rfl, hs, _⟩ := SlK.ofOwn (k := 4) (by decide) (vals_wide L) ho
    exact ⟨_, k, a, c, L, true, hok, rfl, hs, hk, .inr ⟨rfl, rfl⟩⟩

set_option maxHeartbeats 2000000 in
theorem columnGets_any (a : Option Addr) (m c : Nat) (b : List UInt8) (w : World) (hs : Sl w a m c (b.map byteV)) (hm : m ≤ 140737488351232) :
    Calls Tryz.prog 3 #[.slice a m c] w fun e w' => e = .returned (.bool true) ∧ Keeps No w w' := by
  go_enter Tryz.func3, Tryz.ntmps3
  go_wp2_with fail
  refine (first14_any _).mono ?_
  rintro e w1 ⟨rfl, hk1⟩
  by_cases hbig : 2000 < m
  · go_wp2_with fail
    go_ret
    exact ⟨rfl, hk1⟩
  have hs1 := hs.kept hk1
  go_wp2_with fail
  refine (colget_any a m c b _ hs1 (by omega)).mono ?_
  intro e w2 h2
  obtain ⟨r, k, a2, c2, L, B, hok, rfl, hs2, hk2, hc⟩ := h2.cases
  have Hc := Lib.hid hc
  clear h2 hc
  go_wp2_with fail
  refine (rcolget_any a m c b _ (hs1.kept hk2) (by omega)).mono ?_
  intro e w3 h3
  obtain ⟨r', k', a3, c3, L', B', hok', rfl, hs3, hk3, hc'⟩ := h3.cases
  have hrr := hok.same hok'
  subst hrr
  obtain ⟨rfl, rfl, rfl⟩ : k' = k ∧ L' = L ∧ B' = B := by
    rcases Hc.out with ⟨h1, h2, h3, h4⟩ | ⟨h1, h2⟩
    · rcases hc' with ⟨g1, g2, g3, g4⟩ | ⟨g1, g2⟩
      · exact ⟨g2.trans h2.symm, g3.trans h3.symm, g4.trans h4.symm⟩
      · rw [h1] at g1; cases g1
    · rcases hc' with ⟨g1, g2, g3, g4⟩ | ⟨g1, g2⟩
      · rw [h1] at g1; cases g1
      · rw [h1] at g1
        injection g1 with g1; injection g1 with g5 g6
        exact ⟨g5.symm, g6.symm, g2.trans h2.symm⟩
  have hs23 := hs2.kept hk3
  have hl : L'.length ≤ 140737488351232 := by
    have h1 := hs3.le
    rcases hc' with ⟨_, _, h, _⟩ | ⟨h, _⟩
    · rw [h]; simp
    · have := (rightC_iff.1 (hok.1 _ _ h).1).1.2.2; omega
  clear hc' h3 hok hok'
  cases B' with
  | false =>
    go_wp2_with fail
    refine (vsame_any _ _ _ L' _ _ _ L' _ hs23 hs3 hl).mono ?_
    rintro e w4 ⟨rfl, hk4⟩
    go_wp2_with fail
    go_ret
    exact ⟨ret_bool (by simp), ((hk1.transNo hk2).transNo hk3).transNo hk4⟩
  | true =>
    go_wp2_with fail
    refine (vsame_any _ _ _ L' _ _ _ L' _ hs23 hs3 hl).mono ?_
    rintro e w4 ⟨rfl, hk4⟩
    go_wp2_with fail
    go_ret
    exact ⟨ret_bool (by simp), ((hk1.transNo hk2).transNo hk3).transNo hk4⟩
theorem columnGets_walk (a : Option Addr) (m c : Nat) (b : List UInt8) (w : World) (hs : Sl w a m c (b.map byteV)) (hm : m ≤ 140737488351232) :
    Calls Tryz.prog 3 #[.slice a m c] w fun e w' => e = .returned (.bool true) ∧ Keeps No w w' := columnGets_any a m c b w hs hm
end Go.Proofs.YthbipcjgpocpaaaGreat
