/- The walks of layer 13 (dict). -/
import Derived.Test.YthbipcjgpocpaaaGreatDictLib
namespace Go.Proofs.YthbipcjgpocpaaaGreat
open Go.RowKit
set_option linter.unusedSimpArgs false
set_option linter.unusedVariables false
set_option maxRecDepth 100000

theorem int_infoX : (Tryz.prog.info? 3).map (fun i => (i.zero, i.size, i.bytes)) = some (some (.int .i64 0), 1, 8) := by kernel_rfl
theorem byte_infoX : (Tryz.prog.info? 5).map (fun i => (i.zero, i.size, i.bytes)) = some (some (.int .u8 0), 1, 1) := by kernel_rfl

set_option maxHeartbeats 4000000 in
theorem dput_any (a : Option Addr) (n c : Nat) (L : List Tx) (w : World) (hs : Sl w a n c (L.map txV)) (hn : n ≤ 1000) (hL : ∀ x ∈ L, x.length ≤ 100000) :
    Calls Tryz.prog 50 #[.slice a n c] w fun e w' => ∃ v, e = .returned v ∧ w'.ownsRow w.heap.size 5 1 v (dputL L).length ((dputL L).map byteV) ∧ Keeps No w w' ∧ (dputL L).length ≤ 1000000000 := by
  have hlen : L.length = n := by simpa using hs.len
  have Hlen := Lib.hid hlen
  have hwl := wordsL_len L
  have hWr := wordsL_ris L
  have hWm := fun x => wordsL_mem L x
  obtain ⟨W, hW⟩ : ∃ W, W = wordsL L := ⟨_, rfl⟩
  rw [← hW] at hwl hWr hWm
  have hWL : ∀ x ∈ W, x.length ≤ 100000 := fun x hx => hL x ((hWm x).1 hx)
  have hIn := atW_ints W L (by omega)
  obtain ⟨R, hR⟩ : ∃ R, dputL L = R := ⟨_, rfl⟩
  rw [hR]
  have hR2 : R = headW W ++ bitsPut (atW W L) := by rw [← hR, hW]; rfl
  have HR := Lib.hid hR2
  have HW := Lib.hid hW
  obtain ⟨m, hm⟩ : ∃ m, W.length = m := ⟨_, rfl⟩
  have Hm := Lib.hid hm
  have hmn : m ≤ 1000 := by omega
  have HwL := Lib.hid hWL
  have HWm := Lib.hid hWm
  have HWr := Lib.hid hWr
  have HIn := Lib.hid hIn
  clear hlen hR hR2 hW hm hWL hWm hWr hIn hwl
  go_enter Tryz.func50, Tryz.ntmps50
  go_wp2_with fail
  refine (values_any _ _ _ _).mono ?_
  rintro e w1 ⟨rfl, hw1⟩
  have hk1 : Keeps No w w1 := by rw [hw1]; exact (Keeps.refl No w).alloc _
  have hc1 : w1.cell? ⟨w.heap.size, 0, none⟩ = some (.slice a n c) := by rw [hw1]; exact cell_of_row _ w.heap.size 0 _ _ (0, 0) (heap_alloc_new w _)
  have hz1 : w.heap.size < w1.heap.size := by rw [hw1]; simp
  clear hw1
  go_wp2_with fail
  refine (sorted_any w.heap.size a n c L (by omega) w1 hz1 hc1 (hs.kept hk1)).mono ?_
  rintro e w2 ⟨v2, rfl, hown2, hk2⟩
  have hcall := compact_own w1.heap.size v2 L w2 (by rw [Hlen.out]; omega) hown2
  rw [← HW.out, Hm.out] at hcall
  go_wp2_with fail
  refine hcall.mono ?_
  rintro e w3 ⟨a3, c3, rfl, hs3, ha3, hk3⟩
  clear hcall hown2
  have hk13 : Keeps No w1 w3 := hk2.trans hk3 (fun i hi h => absurd h (by omega))
  have hk03 := hk1.transNo hk13
  have hz13 := hk13.size
  clear hk3 hk2 hc1 hk1 hk13
  go_wp2_with fail
  refine (natural_any none 0 0 [] m w3 (Sl.none _) (by omega) (by omega)).mono ?_
  rintro e w4 ⟨v4, rfl, hown4, hk4⟩
  have hk04 := hk03.transNo hk4
  have hz34 := hk4.size
  have hm10 := nat7_len64 m (by omega)
  simp only [List.nil_append, Nat.zero_add] at hown4
  obtain ⟨a4, c4, rfl, _, _⟩ := Sl.ofOwn hown4
  go_wp2_with fail
  go_loopg [22, 4] m (fun q i bv wr => ∃ (k : Nat) (b : List UInt8), k ≤ m ∧ q = m - k ∧ i = .int .i64 (k : Int) ∧ Hid (b = nat7 m ++ encW (W.take k)) ∧ b.length ≤ 10 + k * 100020 ∧ wr.ownsRow w.heap.size 5 1 bv b.length (b.map byteV) ∧ Keeps No w3 wr)
  case atStart => exact ⟨0, nat7 m, Nat.zero_le _, rfl, rfl, Lib.hid (by simp [encW]), by omega, own_le hown4 (by omega), hk4⟩
  case round =>
    clear hown4
    obtain ⟨k, b, hk, hq, rfl, Hb, hbl, hown, hkr⟩ := hrel
    have Hq := Lib.hid hq
    clear hq
    have hown' := hown
    obtain ⟨ab, cb, rfl, hsb, _⟩ := Sl.ofOwn hown'
    clear hown'
    by_cases hlt : k < m
    · have hkW : k < W.length := by rw [Hm.out]; exact hlt
      have hix := hs3.ix (P := Tryz.prog) Tryz.underlying64 (by kernel_rfl) hlt .i64
      have hcm := (hs3.kept hkr).at_ hlt
      obtain ⟨x, hx⟩ : ∃ x, x = W[k] := ⟨_, rfl⟩
      have hbv : (W.map txV).getD k undef = .string ⟨x.toArray⟩ := by rw [hx]; simp [hkW, txV]
      rw [hbv] at hcm
      have hxl : x.length ≤ 100000 := HwL.out x (by rw [hx]; exact List.getElem_mem hkW)
      have hsz : (⟨x.toArray⟩ : ByteArray).size = x.length := by simp [ByteArray.size]
      have hx10 := nat7_len64 x.length (by omega)
      have hcall := text_any ab b.length cb b ⟨x.toArray⟩ wr hsb (by rw [hsz]; have : k * 100020 ≤ m * 100020 := Nat.mul_le_mul_right _ hk; omega)
      rw [hsz] at hcall
      have Hx := Lib.hid hx
      clear hx hbv hsz
      go_wp2_with fail
      refine hcall.mono ?_
      rintro e w5 ⟨v5, rfl, hown5, hk5⟩
      have hzr := (hk03.transNo hkr).size
      go_wp2_with fail
      go_roundg (m - (k + 1))
      case measure => have := Hq.out; omega
      case rel =>
        refine ⟨k + 1, b ++ nat7 x.length ++ x, by omega, rfl, by go_num, Lib.hid ?_, ?_, ?_, hkr.transNo hk5⟩
        · rw [Hb.out, List.take_succ_eq_append_getElem hkW, ← Hx.out, encW_snoc]; simp
        · simp only [List.length_append]; omega
        · have := own_le (base' := w.heap.size) hown5 hzr
          simpa [Nat.add_assoc] using this
    obtain rfl : m = k := by omega
    have hbW : b = headW W := by rw [Hb.out, ← Hm.out, List.take_length]; rfl
    have HbW := Lib.hid hbW
    clear hbW Hb
    have hk0r := hk03.transNo hkr
    have hs3r := hs3.kept hkr
    have hzr := hk0r.size
    clear hkr
    generalize wr = wa at hown hk0r hs3r hzr hsb ⊢
    go_wp2_with fail
    go_loopg [32, 7] n (fun q i av wx => ∃ k : Nat, k ≤ n ∧ q = n - k ∧ i = .int .i64 (k : Int) ∧ wx.ownsRow wa.heap.size 3 1 av k ((atW W (L.take k)).map intV) ∧ Keeps No wa wx)
    case atStart => exact ⟨0, Nat.zero_le _, rfl, rfl, World.ownsRow_nil _ _ _ _, Keeps.refl _ _⟩
    case round =>
      obtain ⟨k, hk, hq, rfl, howa, hkx⟩ := hrel
      have Hq := Lib.hid hq
      clear hq
      have howa' := howa
      obtain ⟨aa, ca, rfl, hsa, _⟩ := Sl.ofOwn howa'
      clear howa'
      by_cases hlt : k < n
      · have hkL : k < L.length := by rw [Hlen.out]; exact hlt
        have hix := hs.ix (P := Tryz.prog) Tryz.underlying64 (by kernel_rfl) hlt .i64
        have hk0x := hk0r.transNo hkx
        have hcm := (hs.kept hk0x).at_ hlt
        obtain ⟨x, hx⟩ : ∃ x, x = L[k] := ⟨_, rfl⟩
        have hbv : (L.map txV).getD k undef = .string ⟨x.toArray⟩ := by rw [hx]; simp [hkL, txV]
        rw [hbv] at hcm
        have hxW : x ∈ W := (HWm.out x).2 (by rw [hx]; exact List.getElem_mem hkL)
        have hm0 : 0 < m := by rw [← Hm.out]; exact List.length_pos_of_mem hxW
        obtain ⟨g3, hg3, _⟩ := ha3 _ (hs3.isSome hm0)
        have hs3x := hs3r.kept hkx
        have ha3e := hs3.isSome hm0
        rw [hg3] at ha3e
        obtain ⟨a3', ha3'⟩ : ∃ a3', a3' = a3 := ⟨_, rfl⟩
        rw [ha3e] at hs3x
        have hcall := search_any g3 m c3 W x _ hs3x HWr.out hxW (by omega)
        unfold txV at hcall
        rw [← ha3e] at hcall
        have hil : W.idxOf x < W.length := List.idxOf_lt_length_of_mem hxW
        generalize hI : W.idxOf x = I at hcall hil
        have HI := Lib.hid hI
        have Hx := Lib.hid hx
        clear hI hx hbv ha3' ha3e hg3 hs3x hxW
        have hmI : I ≤ 1000000 := by rw [Hm.out] at hil; omega
        go_wp2_with fail
        refine hcall.mono ?_
        rintro e w6 ⟨rfl, hk6⟩
        clear hcall
        have howa6 := hk6.own howa (fun _ _ => not_No _)
        have hkA : Keeps No w6 (w6.alloc (.cells #[.int .i64 (I : Int)] 3)) := (Keeps.refl No _).alloc _
        have hzx := (hkx.transNo hk6).size
        go_wp2_with (at_builtin; go_loud (refine app_own rfl _ _ 63 rfl wa.heap.size 3 (.int .i64 0) 8 Tryz.underlying63 int_infoX rfl (by decide) _ k ((atW W (L.take k)).map intV) rfl (hkA.own howa6 (fun _ _ => not_No _)) _ 1 1 [.int .i64 (I : Int)] rfl (Sl.one _ _ _) ?h1 ?hb ?hB ?_))
        case h1 => intro u hu; simp at hu; subst hu; rfl
        case hb => omega
        case hB => simp; omega
        intro v7 w7 hown7 hg7
        have hk7 : Keeps No wa w7 := ((hkx.transNo hk6).transNo hkA).grown hg7 (fun i hi hlt2 => by have := (howa.lt i hi).1; omega)
        go_wp2_with fail
        go_roundg (n - (k + 1))
        case measure => have := Hq.out; omega
        case rel =>
          refine ⟨k + 1, by omega, rfl, by go_num, ?_, hk7⟩
          have e1 : (atW W (L.take (k + 1))).map intV = (atW W (L.take k)).map intV ++ [.int .i64 (I : Int)] := by
            rw [List.take_succ_eq_append_getElem hkL, ← Hx.out]
            unfold atW
            simp [intV, HI.out]
          rw [e1]
          exact hown7
      · obtain rfl : k = n := by omega
        rw [show L.take k = L from by rw [← Hlen.out, List.take_length]] at hsa howa
        have hcall := bput_any aa k ca (atW W L) _ hsa HIn.out (by omega)
        have hownb := hkx.own hown (fun _ _ => not_No _)
        go_wp2_with fail
        refine hcall.mono ?_
        rintro e w6 ⟨a6, m6, c6, rfl, hs6, hm6, _, hk6⟩
        clear hcall
        have hownb6 := hk6.own hownb (fun _ _ => not_No _)
        have hzz := ((hk0r.transNo hkx).transNo hk6).size
        have hbb : b.length ≤ 10 + m * 100020 := hbl
        have hm6l : (bitsPut (atW W L)).length = m6 := by simpa using hs6.len
        have Hm6l := Lib.hid hm6l
        clear hm6l
        have hm10020 : m * 100020 ≤ 1000 * 100020 := Nat.mul_le_mul_right _ hmn
        go_wp2_with (at_builtin; refine app_own rfl _ _ 22 rfl w.heap.size 5 (.int .u8 0) 1 Tryz.underlying22 byte_infoX rfl (by decide) _ b.length (b.map byteV) rfl hownb6 a6 m6 c6 ((bitsPut (atW W L)).map byteV) rfl hs6 ?h1 ?hb ?hB ?_)
        case h1 => exact byteV_one _
        case hb => omega
        case hB => exact hzz
        intro v7 w7 hown7 hg7
        have hk7 : Keeps No w w7 := ((hk0r.transNo hkx).transNo hk6).grown hg7 (fun i hi hlt2 => by have := (hown.lt i hi).1; omega)
        go_wp2_with fail
        go_ret
        have hRl : R.length = b.length + m6 := by rw [HR.out, ← HbW.out, List.length_append, Hm6l.out]
        refine ⟨v7, rfl, ?_, hk7, by omega⟩
        rw [hRl, HR.out, ← HbW.out, List.map_append]
        exact hown7
end Go.Proofs.YthbipcjgpocpaaaGreat
