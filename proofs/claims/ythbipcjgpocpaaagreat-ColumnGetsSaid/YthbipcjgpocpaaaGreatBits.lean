/- The walk of bits.Put. -/
import Derived.Test.YthbipcjgpocpaaaGreatPlainBits
import Derived.Test.YthbipcjgpocpaaaGreatOrd
import Derived.Test.YthbipcjgpocpaaaGreatRunsG
import Derived.Deep.DeepCutAuto
namespace Go.Proofs.YthbipcjgpocpaaaGreat
open Go.RowKit
set_option linter.unusedSimpArgs false
set_option linter.unusedVariables false

theorem sub_u64 {x y : Int} (hx : -9223372036854775808 ≤ x ∧ x ≤ 9223372036854775807) (hy : -9223372036854775808 ≤ y ∧ y ≤ 9223372036854775807) (h : y ≤ x) :
    IntKind.u64.wrap (IntKind.u64.wrap x - IntKind.u64.wrap y) = (((x - y).toNat : Nat) : Int) := by
  rw [IntKind.wrap_u64, IntKind.wrap_u64, IntKind.wrap_u64]; omega

theorem wf_int {x : Int} (h2 : -9223372036854775808 ≤ x ∧ x ≤ 9223372036854775807) : (Lit.int .i64 x).wf = true := by
  show (decide (IntKind.i64.min ≤ x) && decide (x ≤ IntKind.i64.max)) = true
  have e1 : IntKind.i64.min = -9223372036854775808 := by decide
  have e2 : IntKind.i64.max = 9223372036854775807 := by decide
  rw [e1, e2]
  simpa using h2
theorem bits_and_u64 (a b : Nat) (ha : a < 18446744073709551616) (hb : b < 18446744073709551616) : bits .and .u64 (a : Int) (b : Int) = ((a &&& b : Nat) : Int) := by
  have hx : a &&& b < 2 ^ 64 := Nat.and_lt_two_pow _ (by omega)
  have h1 : (BitVec.ofInt 64 (a : Int)).toNat = a := by rw [BitVec.ofInt_natCast, BitVec.toNat_ofNat]; exact Nat.mod_eq_of_lt (by omega)
  have h2 : (BitVec.ofInt 64 (b : Int)).toNat = b := by rw [BitVec.ofInt_natCast, BitVec.toNat_ofNat]; exact Nat.mod_eq_of_lt (by omega)
  show IntKind.u64.wrap ((BitVec.ofInt 64 (a : Int) &&& BitVec.ofInt 64 (b : Int)).toNat : Int) = _
  rw [BitVec.toNat_and, h1, h2, IntKind.wrap_u64]
  omega
theorem bits_or_u64 (a b : Nat) (ha : a < 18446744073709551616) (hb : b < 18446744073709551616) : bits .or .u64 (a : Int) (b : Int) = ((a ||| b : Nat) : Int) := by
  have hx : a ||| b < 2 ^ 64 := Nat.or_lt_two_pow (by omega) (by omega)
  have h1 : (BitVec.ofInt 64 (a : Int)).toNat = a := by rw [BitVec.ofInt_natCast, BitVec.toNat_ofNat]; exact Nat.mod_eq_of_lt (by omega)
  have h2 : (BitVec.ofInt 64 (b : Int)).toNat = b := by rw [BitVec.ofInt_natCast, BitVec.toNat_ofNat]; exact Nat.mod_eq_of_lt (by omega)
  show IntKind.u64.wrap ((BitVec.ofInt 64 (a : Int) ||| BitVec.ofInt 64 (b : Int)).toNat : Int) = _
  rw [BitVec.toNat_or, h1, h2, IntKind.wrap_u64]
  omega
theorem bit_u64 (x j : Nat) (hx : x < 18446744073709551616) : bits .and .u64 (((x / 2 ^ j : Nat)) : Int) 1 = if x.testBit j then 1 else 0 := by
  have h := bits_and_u64 (x / 2 ^ j) 1 (Nat.lt_of_le_of_lt (Nat.div_le_self _ _) hx) (by decide)
  have h' : bits .and .u64 (((x / 2 ^ j : Nat)) : Int) 1 = ((x / 2 ^ j &&& 1 : Nat) : Int) := h
  rw [h', Nat.and_one_is_mod, Nat.testBit_eq_decide_div_mod_eq]
  by_cases hh : x / 2 ^ j % 2 = 1
  · simp [hh]
  · have : x / 2 ^ j % 2 = 0 := by omega
    simp [this]

set_option maxRecDepth 100000 in
set_option maxHeartbeats 4000000 in
theorem bput_any (a : Option Addr) (n c : Nat) (L : List Int) (w : World) (hs : Sl w a n c (L.map intV)) (hI : Ints L) (hn : n ≤ 1000) :
    Calls Tryz.prog 52 #[.slice a n c] w fun e w' => ∃ a' m c', e = .returned (.slice a' m c') ∧ Sl w' a' m c' ((bitsPut L).map byteV) ∧ m ≤ 10000 ∧ (∀ y, a' = some y → w.heap.size ≤ y.block) ∧ Keeps No w w' := by
  have hlen : L.length = n := by simpa using hs.len
  have Hlen := Lib.hid hlen
  have HI := Lib.hid hI
  clear hlen hI
  rcases Nat.eq_zero_or_pos n with h0 | h0
  · subst h0
    have hL : L = [] := List.eq_nil_of_length_eq_zero Hlen.out
    go_enter Tryz.func52, Tryz.ntmps52
    go_wp2_with fail
    go_ret
    refine ⟨none, 0, 0, rfl, ?_, by decide, (fun y h => by cases h), Keeps.refl _ _⟩
    rw [hL]; exact Sl.none _
  have hL : L ≠ [] := fun e => by have := Hlen.out; rw [e] at this; simp at this; omega
  have hlo := HI.out _ (min_mem hL)
  have hhi := HI.out _ (max_mem hL)
  have hle := min_le (max_mem hL)
  have hw64 := width_le HI.out hL
  have hgl := gap_lt HI.out hL
  have hsub := sub_u64 hhi hlo hle
  have hgap : (Lib.maxOf L - Lib.minOf L).toNat = gapN L := rfl
  have hwd : Lib.bitLen (gapN L) = widthN L := rfl
  rw [hgap] at hsub
  generalize hG : gapN L = G at hsub hwd hgl
  generalize hW : widthN L = W at hwd hw64
  generalize hM : Lib.maxOf L = M at hsub hhi
  generalize hm : Lib.minOf L = m at hsub hlo
  have HG := Lib.hid hG
  have HW := Lib.hid hW
  have HM := Lib.hid hM
  have Hm := Lib.hid hm
  have Hwd := Lib.hid hwd
  have HL := Lib.hid hL
  clear hG hW hM hm hwd hL hgap hle
  have hne0 : ((n : Int) == 0) = false := by rw [beq_eq_false_iff_ne]; omega
  go_enter Tryz.func52, Tryz.ntmps52
  go_wp2_with fail
  refine (smin_any a n c L _ hs h0 (by omega)).mono ?_
  rintro e w1 ⟨rfl, rfl⟩
  rw [Hm.out]
  go_wp2_with fail
  refine (smax_any a n c L _ hs h0 (by omega)).mono ?_
  rintro e w1 ⟨rfl, rfl⟩
  rw [HM.out]
  go_wp2_with fail
  refine (len64_any (G : Int) _ (by omega) (by omega)).mono ?_
  rintro e w1 ⟨rfl, rfl⟩
  rw [Int.toNat_natCast, Hwd.out]
  generalize hB : w1.heap.size = B
  have HB := Lib.hid hB
  have hsB : 0 < n → (a.getD default).block < B := fun h => by rw [← hB]; exact hs.lt h
  clear hB
  go_wp2_with fail
  go_loopg [5, 24] n (fun q v i wr => ∃ j : Nat, j ≤ n ∧ q = n - j ∧ i = .int .i64 j ∧ wr.ownsRow B 4 1 v (j * W) ((allBits W m (L.take j)).map Value.bool) ∧ Keeps No w1 wr)
  case atStart => exact ⟨0, Nat.zero_le _, rfl, rfl, by rw [Nat.zero_mul]; exact World.ownsRow_nil _ _ _ _, Keeps.refl _ _⟩
  case round =>
    obtain ⟨j, hj, hq, rfl, hown, hkr⟩ := hrel
    have Hq := Lib.hid hq
    clear hq
    have hzr := hkr.size
    by_cases hlt : j < n
    · have hjL : j < L.length := by rw [Hlen.out]; exact hlt
      have hix := hs.ix (P := Tryz.prog) Tryz.underlying63 (by kernel_rfl) hlt .i64
      have hc := (hs.kept hkr).at_ hlt
      obtain ⟨x, hx⟩ : ∃ x, x = L[j] := ⟨_, rfl⟩
      have hb : (L.map intV).getD j undef = .int .i64 x := by rw [hx]; simp [hjL, intV]
      rw [hb] at hc
      have hxm : x ∈ L := by rw [hx]; exact List.getElem_mem _
      have hsx := sub_u64 (HI.out _ hxm) hlo (by have := min_le hxm; rw [Hm.out] at this; exact this)
      have hst : allBits W m (L.take (j + 1)) = allBits W m (L.take j) ++ lowBits W (x - m).toNat := by rw [List.take_succ_eq_append_getElem hjL, allBits_snoc, ← hx]
      have hux : (x - m).toNat < 18446744073709551616 := by have := HI.out _ hxm; omega
      generalize (x - m).toNat = u at hsx hst hux
      have hjW : j * W + W ≤ 1000 * 64 := by
        have := Nat.mul_le_mul (show j + 1 ≤ 1000 by omega) hw64
        rw [Nat.add_mul] at this; omega
      generalize hP : allBits W m (L.take j) = P at hst hown
      generalize hJ : j * W = J at hjW hown
      have HP := Lib.hid hP
      have HJ := Lib.hid hJ
      have Hst := Lib.hid hst
      clear hb hx hxm hst hP hJ
      go_wp2_with fail
      go_loopg [5, 34] W (fun q v i wx => ∃ k : Nat, k ≤ W ∧ q = W - k ∧ i = .int .i64 k ∧ wx.ownsRow B 4 1 v (J + k) ((P ++ lowBits k u).map Value.bool) ∧ Keeps (fun b => B ≤ b) wr wx)
      case atStart => exact ⟨0, Nat.zero_le _, rfl, rfl, by simpa [lowBits] using hown, Keeps.refl _ _⟩
      case round =>
        obtain ⟨k, hk, hq, rfl, hownk, hkx⟩ := hrel
        have Hqk := Lib.hid hq
        clear hq
        have hzx := hkx.size
        by_cases hkl : k < W
        · have e : (bits BinOp.and IntKind.u64 ((u : Int) / 2 ^ k) 1 == 1) = u.testBit k := by
            have := bit_u64 u k hux
            push_cast at this
            rw [this]
            cases u.testBit k <;> rfl
          go_wp2_with (at_builtin; go_loud (refine app_own rfl _ _ 43 rfl B 4 (.bool false) 1 Tryz.underlying43 bool_info rfl (by decide) _ (J + k) ((P ++ lowBits k u).map Value.bool) rfl (hownk.alloc _) _ 1 1 [.bool (u.testBit k)] rfl (Sl.one _ _ _) ?h1 ?hb ?hB ?_))
          case h1 => first | rfl | (intro u hu; simp at hu; subst hu; rfl)
          case hb => omega
          case hB => have := HB.out; first | omega | (simp; omega)
          intro v' w6 hown6 hg6
          go_wp2_with fail
          go_roundg (W - (k + 1))
          case rel =>
            refine ⟨k + 1, by omega, rfl, by go_num, ?_, (hkx.alloc _).grown hg6 (fun b hb _ => (hownk.lt b hb).1)⟩
            rw [lowBits_succ]
            simpa [Nat.add_assoc] using hown6
          case measure => have := Hqk.out; omega
        · obtain rfl : W = k := by omega
          go_wp2_with fail
          go_roundg (n - (j + 1))
          case rel => exact ⟨j + 1, by omega, rfl, by go_num, by rw [Hst.out, Nat.add_mul, HJ.out, Nat.one_mul]; exact hownk, hkr.trans hkx (fun i hi h => by have := HB.out; omega)⟩
          case measure => have := Hq.out; omega
    · obtain rfl : n = j := by omega
      rw [show L.take n = L from List.take_of_length_le (by rw [Hlen.out]; omega)] at hown
      have hnW : n * W ≤ 1000 * 64 := Nat.mul_le_mul hn hw64
      generalize hA : allBits W m L = A at hown
      generalize hX : n * W = X at hown hnW
      have HA := Lib.hid hA
      clear hA hX
      obtain ⟨ab, cb, rfl, hsb, hfb⟩ := Sl.ofOwn hown
      have hAl : A.length = X := by simpa using hsb.len
      have HAl := Lib.hid hAl
      have hcw : IntKind.u8.wrap (W : Int) = ((UInt8.ofNat W).toNat : Int) := by rw [ofNat_toNat (by omega), IntKind.wrap_u8]; omega
      have hcw' : bitsTail L = UInt8.ofNat W :: putTo A A.length := by unfold bitsTail; rw [HW.out, Hm.out, HA.out]
      have hpl : (putTo A A.length).length = (A.length + 7) / 8 := putTo_length _ _
      rw [hAl] at hpl hcw'
      have hfold := nat7_len64 (fold m) (fold_lt hlo)
      have hput : bitsPut L = nat7 (fold m) ++ bitsTail L := by unfold bitsPut; rw [if_neg HL.out, Hm.out]
      rw [hcw'] at hput
      generalize UInt8.ofNat W = cw at hcw hput
      generalize hPA : putTo A X = PA at hpl hput
      generalize hF : nat7 (fold m) = F at hfold hput
      have HPA := Lib.hid hPA
      have HF := Lib.hid hF
      have Hput := Lib.hid hput
      have Hpl := Lib.hid hpl
      clear hAl hcw' hput hPA hF hpl
      go_wp2_with fail
      refine (number_any none 0 0 [] m _ (Sl.none _) (by omega) (wf_int hlo)).mono ?_
      rintro e w2 ⟨v2, rfl, hown2, hk2⟩
      rw [List.nil_append, Nat.zero_add, HF.out] at hown2
      have hz2 := hk2.size
      go_wp2_with (at_builtin; go_loud (refine app_own rfl _ _ 22 rfl wr.heap.size 5 (.int .u8 0) 1 Tryz.underlying22 ones_info rfl (by decide) _ F.length (F.map byteV) rfl (hown2.alloc _) _ 1 1 [byteV cw] rfl (Sl.one _ _ _) ?h1 ?hb ?hB ?_))
      case h1 => first | rfl | (intro u hu; simp at hu; subst hu; rfl)
      case hb => omega
      case hB => first | omega | (simp; omega)
      intro v3 w3 hown3 hg3
      have hk3 : Keeps No w1 w3 := (hkr.trans hk2 (fun _ _ h => h)).trans (((Keeps.refl (fun b => wr.heap.size ≤ b) _).alloc _).grown hg3 (fun b hb _ => (hown2.lt b hb).1)) (fun i hi h => by have := hkr.size; omega)
      have hz3 := hk3.size
      have hsb3 := hsb.keep (((hk2.no (S := fun b => wr.heap.size ≤ b)).trans (((Keeps.refl (fun b => wr.heap.size ≤ b) _).alloc _).grown hg3 (fun b hb _ => (hown2.lt b hb).1)) (fun _ _ h => h)) : Keeps (fun b => wr.heap.size ≤ b) wr w3) (fun h => by have := hsb.lt h; omega)
      go_wp2_with fail
      refine (put_any ab X cb A _ hsb3 (by omega)).mono ?_
      rintro e w4 ⟨v4, rfl, hown4, hk4⟩
      rw [HPA.out] at hown4
      obtain ⟨a3, c3, rfl, hs3, hf3⟩ := Sl.ofOwn hown3
      obtain ⟨a4, c4, rfl, hs4, hf4⟩ := Sl.ofOwn hown4
      have hs34 := hs3.kept hk4
      have hz4 := hk4.size
      go_wp2_with fail
      refine (concat_any _ 2 a3 _ c3 (F ++ [cw]) a4 _ c4 PA _ (Sl.lit _ _ _ _ rfl 2 rfl (by decide)) (by rw [List.map_append]; exact hs34.kept ((Keeps.refl No _).alloc _)) (hs4.kept ((Keeps.refl No _).alloc _)) (by omega) (by have := Hpl.out; omega)).mono ?_
      rintro e w5 ⟨v5, rfl, hown5, hk5⟩
      obtain ⟨a5, c5, rfl, hs5, hf5⟩ := Sl.ofOwn hown5
      go_wp2_with fail
      go_ret
      refine ⟨a5, _, c5, rfl, ?_, (by have := Hpl.out; omega), ?_, (hk3.transNo hk4).transNo hk5.ofAlloc⟩
      · rw [Hput.out]
        simpa using hs5
      · intro y hy
        obtain ⟨g, rfl, hg, _⟩ := hf5 y hy
        exact Nat.le_trans (Nat.le_trans hz3 hz4) (Nat.le_trans ((Keeps.refl No _).alloc _).size hg)
end Go.Proofs.YthbipcjgpocpaaaGreat
