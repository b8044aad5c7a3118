/- The walks of the statements on columns: first, ColumnShort. -/
import Derived.Test.YthbipcjgpocpaaaGreatColG
import Derived.Test.YthbipcjgpocpaaaGreatRefCol
import Derived.Test.YthbipcjgpocpaaaGreatValR
namespace Go.Proofs.YthbipcjgpocpaaaGreat
open Go.RowKit
set_option linter.unusedSimpArgs false
set_option linter.unusedVariables false
set_option maxRecDepth 100000

theorem ColPutPost.outOk {k : Int} {L : List Va} {w w' : World} {e : Ending} (h : ColPutPost k L w e w') (hr : rightC k L = true) : ∃ a c, e = .returned (.tuple #[.slice a (colPut k L).length c, .int .i64 0]) ∧ Sl w' a (colPut k L).length c ((colPut k L).map byteV) ∧ Keeps No w w' := by
  rcases h with ⟨h, _⟩ | ⟨_, v, rfl, ho, hk⟩
  · rw [hr] at h; cases h
  · obtain ⟨a, c, rfl, hs, _⟩ := Sl.ofOwn ho
    exact ⟨a, c, rfl, hs, hk⟩
theorem ColPutPost.outNo {k : Int} {L : List Va} {w w' : World} {e : Ending} (h : ColPutPost k L w e w') (hr : rightC k L = false) : e = .returned (.tuple #[.slice none 0 0, .int .i64 2]) ∧ Keeps No w w' := by
  rcases h with ⟨_, he, hk⟩ | ⟨h, _⟩
  · exact ⟨he, hk⟩
  · rw [hr] at h; cases h
theorem ColGetPost.outPut {k : Int} {L : List Va} {w w' : World} {e : Ending} (h : ColGetPost (colPut k L) w e w') (hr : rightC k L = true) (hw : ∀ v ∈ L, v.wf) : ∃ a c, e = .returned (.tuple #[.int .i64 k, .slice a L.length c, .bool true]) ∧ SlK w' 4 a L.length c (L.map Va.cells) ∧ Keeps No w w' := by
  obtain ⟨r, hok, hk, ⟨rfl, he⟩ | ⟨k', L', v, rfl, rfl, ho⟩⟩ := h
  · have := hok.2 k L hr hw rfl; cases this
  · have h2 := hok.2 k L hr hw rfl
    injection h2 with h2; injection h2 with h3 h4
    subst h3 h4
    obtain ⟨a, c, rfl, hs, _⟩ := SlK.ofOwn (k := 4) (by decide) (vals_wide L') ho
    exact ⟨a, c, rfl, hs, hk⟩

def cells12 : Array Value := #[.int .i64 1, .int .i64 5, .string ⟨#[]⟩, .int .u64 0, .int .i64 0, .int .i64 0, .string ⟨#[]⟩, .int .u64 0, .int .i64 1, .int .i64 5, .string ⟨#[]⟩, .int .u64 0]
theorem cells12_eq : cells12.toList = (col5.map Va.cells).flatten := rfl

set_option maxHeartbeats 4000000 in
theorem first14_any (w : World) :
    Calls Tryz.prog 4 #[] w fun e w' => e = .returned (.bool true) ∧ Keeps No w w' := by
  have hsL : SlK (w.alloc (.cells cells12 32)) 4 (some ⟨w.heap.size, 0, none⟩) 3 3 (col5.map Va.cells) := SlK.lit w cells12 32 (col5.map Va.cells) cells12_eq (vals_wide _) 3 rfl (by decide)
  have hkA : Keeps No w (w.alloc (.cells cells12 32)) := (Keeps.refl No w).alloc _
  unfold cells12 at hsL hkA
  have hp1 := fun wx hs => colput_any 1 (some ⟨w.heap.size, 0, none⟩) 3 3 col5 wx hs five_wf
  have hp2 := fun wx hs => colput_any 2 (some ⟨w.heap.size, 0, none⟩) 3 3 col5 wx hs five_wf
  have hl6 := len5
  obtain ⟨D, hD⟩ : ∃ D, D = colPut 1 col5 := ⟨_, rfl⟩
  obtain ⟨L5, hL5⟩ : ∃ L5, L5 = col5 := ⟨_, rfl⟩
  have HL5 := Lib.hid hL5
  have HD := Lib.hid hD
  have hr5 := Lib.hid right5
  have hr5' := Lib.hid right5'
  have hw5 := Lib.hid five_wf
  have hl5 : col5.length = 3 := rfl
  rw [← hL5] at hsL hp1 hp2 hr5 hr5' hw5 hl5
  rw [← hD] at hl6
  clear hD hL5
  have Hl5 := Lib.hid hl5
  clear hl5
  go_enter Tryz.func4, Tryz.ntmps4
  go_wp2_with fail
  refine (hp1 _ hsL).mono ?_
  intro e w1 h1
  obtain ⟨a1, c1, rfl, hs1, hk1⟩ := h1.outOk hr5.out
  have hdd : colPut 1 L5 = D := by rw [HL5.out, HD.out]
  rw [hdd] at hs1 ⊢
  have hl6' : D.length = 6 := hl6
  rw [hl6'] at hs1 ⊢
  clear h1 hp1 hl6 hl6'
  have hsL1 := hsL.kept hk1
  have hkw1 := hkA.transNo hk1
  go_wp2_with fail
  refine (colget_any a1 6 c1 D _ hs1 (by omega)).mono ?_
  intro e w2 h2
  rw [← hdd] at h2
  obtain ⟨a2, c2, rfl, hs2, hk2⟩ := h2.outPut hr5.out hw5.out
  rw [Hl5.out] at hs2 ⊢
  have hsL2 := hsL1.kept hk2
  clear h2 hdd
  go_wp2_with fail
  refine (hp2 _ hsL2).mono ?_
  intro e w3 h3
  obtain ⟨rfl, hk3⟩ := h3.outNo hr5'.out
  clear h3 hp2
  have hsL3 := hsL2.kept hk3
  have hs23 := hs2.kept hk3
  go_wp2_with fail
  refine (vsame_any _ _ _ L5 _ _ _ L5 _ hs23 hsL3 (by omega)).mono ?_
  rintro e w4 ⟨rfl, hk4⟩
  go_wp2_with fail
  go_ret
  exact ⟨ret_bool (by simp), ((hkw1.transNo hk2).transNo hk3).transNo hk4⟩

end Go.Proofs.YthbipcjgpocpaaaGreat
