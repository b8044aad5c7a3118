/- The walks of the statements on columns: first, ColumnShort. -/
import Derived.Test.YthbipcjgpocpaaaColG
import Derived.Test.YthbipcjgpocpaaaRefCol
import Derived.Test.YthbipcjgpocpaaaValR
namespace Go.Proofs.Ythbipcjgpocpaaa
open Go.RowKit
set_option linter.unusedSimpArgs false
set_option linter.unusedVariables false
set_option maxRecDepth 100000

theorem ColPutPost.outOk {k : Int} {L : List Va} {w w' : World} {e : Ending} (h : ColPutPost k L w e w') (hr : rightC k L = true) : ∃ a c, e = .returned (.tuple #[.slice a (colPut k L).length c, .int .i64 0]) ∧ Sl w' a (colPut k L).length c ((colPut k L).map byteV) ∧ Keeps No w w' := by
  rcases h with ⟨h, _⟩ | ⟨_, v, rfl, ho, hk⟩
  · rw [hr] at h; cases h
  · obtain ⟨a, c, rfl, hs, _⟩ := Sl.ofOwn ho
    exact ⟨a, c, rfl, hs, hk⟩
theorem ColPutPost.outNo {k : Int} {L : List Va} {w w' : World} {e : Ending} (h : ColPutPost k L w e w') (hr : rightC k L = false) : e = .returned (.tuple #[.slice none 0 0, .int .i64 2]) ∧ Keeps No w w' := by
  rcases h with ⟨_, he, hk⟩ | ⟨h, _⟩
  · exact ⟨he, hk⟩
  · rw [hr] at h; cases h
theorem ColGetPost.outPut {k : Int} {L : List Va} {w w' : World} {e : Ending} (h : ColGetPost (colPut k L) w e w') (hr : rightC k L = true) (hw : ∀ v ∈ L, v.wf) : ∃ a c, e = .returned (.tuple #[.int .i64 k, .slice a L.length c, .bool true]) ∧ SlK w' 4 a L.length c (L.map Va.cells) ∧ Keeps No w w' := by
  obtain ⟨r, hok, hk, ⟨rfl, he⟩ | ⟨k', L', v, rfl, rfl, ho⟩⟩ := h
  · have := hok.2 k L hr hw rfl; cases this
  · have h2 := hok.2 k L hr hw rfl
    injection h2 with h2; injection h2 with h3 h4
    subst h3 h4
    obtain ⟨a, c, rfl, hs, _⟩ := SlK.ofOwn (k := 4) (by decide) (vals_wide L') ho
    exact ⟨a, c, rfl, hs, hk⟩

def cells12 : Array Value := #[.int .i64 1, .int .i64 5, .string ⟨#[]⟩, .int .u64 0, .int .i64 0, .int .i64 0, .string ⟨#[]⟩, .int .u64 0, .int .i64 1, .int .i64 5, .string ⟨#[]⟩, .int .u64 0]
theorem cells12_eq : cells12.toList = (col5.map Va.cells).flatten := rfl

set_option maxHeartbeats 4000000 in
theorem first14_any (w : World) :
    Calls Try.prog 17 #[] w fun e w' => e = .returned (.bool true) ∧ Keeps No w w' := by
  have hsL : SlK (w.alloc (.cells cells12 39)) 4 (some ⟨w.heap.size, 0, none⟩) 3 3 (col5.map Va.cells) := SlK.lit w cells12 39 (col5.map Va.cells) cells12_eq (vals_wide _) 3 rfl (by decide)
  have hkA : Keeps No w (w.alloc (.cells cells12 39)) := (Keeps.refl No w).alloc _
  unfold cells12 at hsL hkA
  have hp1 := fun wx hs => colput_any 1 (some ⟨w.heap.size, 0, none⟩) 3 3 col5 wx hs five_wf
  have hp2 := fun wx hs => colput_any 2 (some ⟨w.heap.size, 0, none⟩) 3 3 col5 wx hs five_wf
  have hl6 := len5
  obtain ⟨D, hD⟩ : ∃ D, D = colPut 1 col5 := ⟨_, rfl⟩
  obtain ⟨L5, hL5⟩ : ∃ L5, L5 = col5 := ⟨_, rfl⟩
  have HL5 := Lib.hid hL5
  have HD := Lib.hid hD
  have hr5 := Lib.hid right5
  have hr5' := Lib.hid right5'
  have hw5 := Lib.hid five_wf
  have hl5 : col5.length = 3 := rfl
  rw [← hL5] at hsL hp1 hp2 hr5 hr5' hw5 hl5
  rw [← hD] at hl6
  clear hD hL5
  have Hl5 := Lib.hid hl5
  clear hl5
  go_enter Try.func17, Try.ntmps17
  go_wp2_with fail
  refine (hp1 _ hsL).mono ?_
  intro e w1 h1
  obtain ⟨a1, c1, rfl, hs1, hk1⟩ := h1.outOk hr5.out
  have hdd : colPut 1 L5 = D := by rw [HL5.out, HD.out]
  rw [hdd] at hs1 ⊢
  have hl6' : D.length = 6 := hl6
  rw [hl6'] at hs1 ⊢
  clear h1 hp1 hl6 hl6'
  have hsL1 := hsL.kept hk1
  have hkw1 := hkA.transNo hk1
  go_wp2_with fail
  refine (colget_any a1 6 c1 D _ hs1 (by omega)).mono ?_
  intro e w2 h2
  rw [← hdd] at h2
  obtain ⟨a2, c2, rfl, hs2, hk2⟩ := h2.outPut hr5.out hw5.out
  rw [Hl5.out] at hs2 ⊢
  have hsL2 := hsL1.kept hk2
  clear h2 hdd
  go_wp2_with fail
  refine (hp2 _ hsL2).mono ?_
  intro e w3 h3
  obtain ⟨rfl, hk3⟩ := h3.outNo hr5'.out
  clear h3 hp2
  have hsL3 := hsL2.kept hk3
  have hs23 := hs2.kept hk3
  go_wp2_with fail
  refine (vsame_any _ _ _ L5 _ _ _ L5 _ hs23 hsL3 (by omega)).mono ?_
  rintro e w4 ⟨rfl, hk4⟩
  go_wp2_with fail
  go_ret
  exact ⟨ret_bool (by simp), ((hkw1.transNo hk2).transNo hk3).transNo hk4⟩

set_option maxHeartbeats 4000000 in
theorem columnShort_any (k : Int) (a : Option Addr) (n c : Nat) (L : List Va) (w : World) (hs : SlK w 4 a n c (L.map Va.cells)) (hL : ∀ v ∈ L, v.wf) (hn : n ≤ 140737488351232) :
    Calls Try.prog 6 #[.int .i64 k, .slice a n c] w fun e w' => e = .returned (.bool true) ∧ Keeps No w w' := by
  have hlen : L.length = n := by simpa using hs.len
  have Hlen := Lib.hid hlen
  have hput := fun wx hs => colput_any k a n c L wx hs hL
  have HL := Lib.hid hL
  clear hlen hL
  go_enter Try.func6, Try.ntmps6
  go_wp2_with fail
  refine (first14_any _).mono ?_
  rintro e w1 ⟨rfl, hk1⟩
  by_cases hbig : 300 < n
  · go_wp2_with fail
    go_ret
    exact ⟨rfl, hk1⟩
  have hs1 := hs.kept hk1
  go_wp2_with fail
  refine (hput _ hs1).mono ?_
  intro e w2 h2
  clear hput
  cases hr : rightC k L with
  | false =>
    obtain ⟨rfl, hk2⟩ := h2.outNo hr
    clear h2 hr
    go_wp2_with fail
    go_ret
    exact ⟨rfl, hk1.transNo hk2⟩
  | true =>
    obtain ⟨a2, c2, rfl, hs2, hk2⟩ := h2.outOk hr
    have hsz := colPut_sz hr HL.out
    have hcl := colPut_len hr HL.out
    have hr64 : ∀ v ∈ L, v.s.size ≤ 64 := fun v hv => right_size ((rightC_iff.1 hr).2 v hv).1
    have hsum := sz_sum_le hr64
    rw [Hlen.out] at hsz
    generalize (colPut k L).length = D at hs2 hsz hcl ⊢
    have Hsz := Lib.hid hsz
    have Hsum := Lib.hid hsum
    have Hr64 := Lib.hid hr64
    have hk02 := hk1.transNo hk2
    have hs02 := hs.kept hk02
    obtain ⟨Z, hZ⟩ : ∃ Z : Nat, Z = 4 + (n + 7) / 8 := ⟨_, rfl⟩
    have hZ2 : (4 : Int) + ((n : Int) + 7) / 8 = (Z : Int) := by omega
    have HZ := Lib.hid hZ
    have hZb : Z ≤ 100 := by omega
    clear h2 hr hsz hsum hr64 hZ hs2 hs1
    go_wp2_with fail
    go_loopg [30, 7] n (fun q i nv wr => ∃ (t N : Nat), t ≤ n ∧ q = n - t ∧ i = .int .i64 (t : Int) ∧ Hid (N = Z + ((L.take t).map szV).sum) ∧ N ≤ 100 + t * 65 ∧ nv = .int .i64 (N : Int) ∧ Keeps No w2 wr)
    case atStart => exact ⟨0, Z, Nat.zero_le _, rfl, rfl, Lib.hid (by simp), by omega, by first | rfl | (rw [← hZ2]; go_num), Keeps.refl _ _⟩
    case round =>
      obtain ⟨t, N, ht, hq, rfl, HN, hNb, rfl, hkr⟩ := hrel
      have Hq := Lib.hid hq
      clear hq
      by_cases hlt : t < n
      · have hlt' : t < L.length := by rw [Hlen.out]; exact hlt
        have hsr := hs02.kept hkr
        have hix := hsr.ix (P := Try.prog) Try.underlying33 val_size hlt .i64
        obtain ⟨hld, _⟩ := hsr.load (P := Try.prog) (ty := 39) Try.underlying39 rfl val_size hlt
        rw [vget L hlt'] at hld
        obtain ⟨x, hx⟩ : ∃ x, x = L.getD t Va.zero := ⟨_, rfl⟩
        rw [← hx] at hld
        have hg : L[t] = x := by rw [hx]; simp [hlt']
        have hx64 : x.s.size ≤ 64 := Hr64.out x (by rw [← hg]; exact List.getElem_mem hlt')
        have htk : ((L.take (t + 1)).map szV).sum = ((L.take t).map szV).sum + szV x := by
          rw [List.take_succ_eq_append_getElem hlt', List.map_append, List.sum_append, hg]; simp
        have Htk := Lib.hid htk
        clear hx hg htk hsr
        obtain ⟨xk, xn, xs, xf⟩ := x
        unfold Va.cells at hld
        simp only at hld hx64
        have hkN : Keeps No wr (wr.alloc (.cells #[.int .i64 xk, .int .i64 xn, .string xs, .int .u64 (xf : Int)] 39)) := (Keeps.refl No wr).alloc _
        obtain ⟨S, hS⟩ : ∃ S, S = szV ⟨xk, xn, xs, xf⟩ := ⟨_, rfl⟩
        rw [← hS] at Htk
        have hS2 := hS
        unfold szV at hS2
        simp only at hS2
        have hSb : S ≤ 65 := by rw [hS2]; split; omega; split; omega; split; omega; split <;> omega
        clear hS
        by_cases h1 : xk = 1
        · rw [if_pos h1] at hS2
          subst h1
          have HS := Lib.hid hS2
          clear hS2
          go_wp2_with (refine wpList_loadV (op := ⟨some 33, _, _, _, _, _⟩) rfl 39 (.tmp 32) rfl _ rfl _ hld ?_)
          go_roundg (n - (t + 1))
          case measure => have := Hq.out; omega
          case rel => exact ⟨t + 1, N + S, by omega, rfl, by go_num, Lib.hid (by rw [Htk.out, HN.out]; omega), by omega, by rw [HS.out]; go_num, hkr.transNo hkN⟩
        rw [if_neg h1] at hS2
        have e1 : (xk == 1) = false := by simp [h1]
        by_cases h2 : xk = 2
        · rw [if_pos h2] at hS2
          subst h2
          have HS := Lib.hid hS2
          clear hS2 h1
          go_wp2_with (refine wpList_loadV (op := ⟨some 33, _, _, _, _, _⟩) rfl 39 (.tmp 32) rfl _ rfl _ hld ?_)
          go_roundg (n - (t + 1))
          case measure => have := Hq.out; omega
          case rel => exact ⟨t + 1, N + S, by omega, rfl, by go_num, Lib.hid (by rw [Htk.out, HN.out]; omega), by omega, by rw [HS.out]; go_num, hkr.transNo hkN⟩
        rw [if_neg h2] at hS2
        have e2 : (xk == 2) = false := by simp [h2]
        by_cases h3 : xk = 3
        · rw [if_pos h3] at hS2
          subst h3
          have HS := Lib.hid hS2
          clear hS2 h1 h2
          go_wp2_with (refine wpList_loadV (op := ⟨some 33, _, _, _, _, _⟩) rfl 39 (.tmp 32) rfl _ rfl _ hld ?_)
          go_roundg (n - (t + 1))
          case measure => have := Hq.out; omega
          case rel => exact ⟨t + 1, N + S, by omega, rfl, by go_num, Lib.hid (by rw [Htk.out, HN.out]; omega), by omega, by rw [HS.out]; go_num, hkr.transNo hkN⟩
        rw [if_neg h3] at hS2
        have e3 : (xk == 3) = false := by simp [h3]
        by_cases h4 : xk = 4
        · rw [if_pos h4] at hS2
          subst h4
          have HS := Lib.hid hS2
          clear hS2 h1 h2 h3
          go_wp2_with (refine wpList_loadV (op := ⟨some 33, _, _, _, _, _⟩) rfl 39 (.tmp 32) rfl _ rfl _ hld ?_)
          go_roundg (n - (t + 1))
          case measure => have := Hq.out; omega
          case rel => exact ⟨t + 1, N + S, by omega, rfl, by go_num, Lib.hid (by rw [Htk.out, HN.out]; omega), by omega, by rw [HS.out]; go_num, hkr.transNo hkN⟩
        rw [if_neg h4] at hS2
        have e4 : (xk == 4) = false := by simp [h4]
        have HS := Lib.hid hS2
        clear hS2 h1 h2 h3 h4
        go_wp2_with (refine wpList_loadV (op := ⟨some 33, _, _, _, _, _⟩) rfl 39 (.tmp 32) rfl _ rfl _ hld ?_)
        go_roundg (n - (t + 1))
        case measure => have := Hq.out; omega
        case rel => exact ⟨t + 1, N, by omega, rfl, by go_num, Lib.hid (by rw [Htk.out, HN.out, HS.out]; omega), by omega, rfl, hkr.transNo hkN⟩
      · obtain rfl : t = n := by omega
        have hNL : D ≤ N := by
          have h1 := HN.out
          rw [List.take_of_length_le (by rw [Hlen.out]; exact Nat.le_refl _)] at h1
          have := Hsz.out
          have := HZ.out
          omega
        go_wp2_with fail
        go_ret
        exact ⟨ret_bool (by first | (simp; done) | (simp; omega)), hk02.transNo hkr⟩
theorem columnShort_walk (k : Int) (a : Option Addr) (n c : Nat) (l : List VR) (w : World) (hk : (Lit.int .i64 k).wf = true) (hs : SlK w 4 a n c (l.map vrCells)) (hn : n * 40 ≤ 140737488351232) :
    Calls Try.prog 6 #[.int .i64 k, .slice a n c] w fun e w' => e = .returned (.bool true) ∧ Keeps No w w' := by
  rw [vr_map] at hs
  exact columnShort_any k a n c _ w hs (vr_all l) (by omega)
end Go.Proofs.Ythbipcjgpocpaaa
