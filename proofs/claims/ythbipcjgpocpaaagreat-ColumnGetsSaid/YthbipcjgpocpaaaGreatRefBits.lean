/- The document's Put of numbers by few bits. -/
import Derived.Test.YthbipcjgpocpaaaGreatBitsG
import Derived.Test.YthbipcjgpocpaaaGreatRefPack
import Derived.Test.YthbipcjgpocpaaaGreatRefPackR
import Derived.Test.YthbipcjgpocpaaaGreatRefBitmap
import Derived.Test.YthbipcjgpocpaaaGreatRunsG
namespace Go.Proofs.YthbipcjgpocpaaaGreat
open Go.RowKit
set_option linter.unusedSimpArgs false
set_option linter.unusedVariables false

set_option maxRecDepth 100000 in
set_option maxHeartbeats 4000000 in
theorem rbput_any (a : Option Addr) (n c : Nat) (L : List Int) (w : World) (hs : Sl w a n c (L.map intV)) (hI : Ints L) (hn : n ≤ 1000) :
    Calls Tryz.prog 64 #[.slice a n c] w fun e w' => ∃ a' m c', e = .returned (.slice a' m c') ∧ Sl w' a' m c' ((bitsPut L).map byteV) ∧ m ≤ 10000 ∧ Keeps No w w' := by
  have hlen : L.length = n := by simpa using hs.len
  have Hlen := Lib.hid hlen
  have HI := Lib.hid hI
  clear hlen hI
  rcases Nat.eq_zero_or_pos n with h0 | h0
  · subst h0
    have hL : L = [] := List.eq_nil_of_length_eq_zero Hlen.out
    go_enter Tryz.func64, Tryz.ntmps64
    go_wp2_with fail
    go_ret
    refine ⟨none, 0, 0, rfl, ?_, by decide, Keeps.refl _ _⟩
    rw [hL]; exact Sl.none _
  have hL : L ≠ [] := fun e => by have := Hlen.out; rw [e] at this; simp at this; omega
  have hlo := HI.out _ (min_mem hL)
  have hhi := HI.out _ (max_mem hL)
  have hle := min_le (max_mem hL)
  have hw64 := width_le HI.out hL
  have hgl := gap_lt HI.out hL
  have hsub := sub_u64 hhi hlo hle
  have hgap : (Lib.maxOf L - Lib.minOf L).toNat = gapN L := rfl
  have hwd : Lib.bitLen (gapN L) = widthN L := rfl
  rw [hgap] at hsub
  generalize hG : gapN L = G at hsub hwd hgl
  generalize hW : widthN L = W at hwd hw64
  generalize hM : Lib.maxOf L = M at hsub hhi
  generalize hm : Lib.minOf L = m at hsub hlo
  have HG := Lib.hid hG
  have HW := Lib.hid hW
  have HM := Lib.hid hM
  have Hm := Lib.hid hm
  have Hwd := Lib.hid hwd
  have HL := Lib.hid hL
  clear hG hW hM hm hwd hL hgap hle
  have hne0 : ((n : Int) == 0) = false := by rw [beq_eq_false_iff_ne]; omega
  have hix0 := hs.ixz (P := Tryz.prog) Tryz.underlying63 (by kernel_rfl) 0 (i := 0) (by rfl) h0 .i64
  have hc0 := hs.at_ h0
  obtain ⟨f0, hf0⟩ : ∃ f0, f0 = L.headD 0 := ⟨_, rfl⟩
  have hb0 : (L.map intV).getD 0 undef = .int .i64 f0 := by
    rw [hf0]
    have := Hlen.out
    cases L with
    | nil => simp at this; omega
    | cons z zs => rfl
  rw [hb0, addr_add0] at hc0
  have Hf0 := Lib.hid hf0
  clear hb0 hf0
  generalize hB : w.heap.size = B
  have HB := Lib.hid hB
  have hsB : 0 < n → (a.getD default).block < B := fun h => by rw [← hB]; exact hs.lt h
  clear hB
  go_enter Tryz.func64, Tryz.ntmps64
  go_wp2_with fail
  go_quiet (fail)
  go_wp2_with fail
  go_loopg [3, 4, 25] n (fun q v3 v4 i wr => ∃ k : Nat, k ≤ n ∧ q = n - k ∧ i = .int .i64 k ∧ v3 = .int .i64 ((L.take k).foldl min f0) ∧ v4 = .int .i64 ((L.take k).foldl max f0) ∧ Keeps No w wr)
  case atStart => exact ⟨0, Nat.zero_le _, rfl, rfl, rfl, rfl, (Keeps.refl No w).drewN _⟩
  case round =>
    obtain ⟨k, hk, hq, rfl, rfl, rfl, hkr⟩ := hrel
    have Hq := Lib.hid hq
    clear hq
    by_cases hlt : k < n
    · have hjL : k < L.length := by rw [Hlen.out]; exact hlt
      have hix := hs.ix (P := Tryz.prog) Tryz.underlying63 (by kernel_rfl) hlt .i64
      have hc := (hs.kept hkr).at_ hlt
      obtain ⟨x, hx⟩ : ∃ x, x = L[k] := ⟨_, rfl⟩
      have hb : (L.map intV).getD k undef = .int .i64 x := by rw [hx]; simp [hjL, intV]
      rw [hb] at hc
      have hmn : (L.take (k + 1)).foldl min f0 = min ((L.take k).foldl min f0) x := by rw [List.take_succ_eq_append_getElem hjL, List.foldl_append, ← hx]; rfl
      have hmx : (L.take (k + 1)).foldl max f0 = max ((L.take k).foldl max f0) x := by rw [List.take_succ_eq_append_getElem hjL, List.foldl_append, ← hx]; rfl
      have Hmn := Lib.hid hmn
      have Hmx := Lib.hid hmx
      clear hb hx hmn hmx
      go_wp2_with fail
      go_roundg (n - (k + 1))
      case rel => exact ⟨k + 1, by omega, rfl, by go_num, by rw [Hmn.out], by rw [Hmx.out], hkr⟩
      case measure => have := Hq.out; omega
    · obtain rfl : n = k := by omega
      rw [show L.take n = L from List.take_of_length_le (by rw [Hlen.out]; omega), show L.foldl min f0 = m from by rw [Hf0.out]; exact Hm.out, show L.foldl max f0 = M from by rw [Hf0.out]; exact HM.out]
      have hzr := hkr.size
      have hsr := hs.kept hkr
      rw [HB.out] at hzr
      go_wp2_with fail
      go_loopg [7, 8] G (fun q v d wx => ∃ t u : Nat, q = u ∧ v = .int .i64 t ∧ d = .int .u64 u ∧ t + Lib.bitLen u = W ∧ u < 18446744073709551616 ∧ wx = wr)
      case atStart => exact ⟨0, G, rfl, rfl, rfl, by rw [Nat.zero_add]; exact Hwd.out, hgl, rfl⟩
      case round =>
        obtain ⟨t, u, hq, rfl, rfl, htu, hu, rfl⟩ := hrel
        have Hqu := Lib.hid hq
        have Htu := Lib.hid htu
        have htW : t ≤ W := by omega
        clear hq htu
        by_cases hu0 : 0 < u
        · go_wp2_with fail
          go_roundg (u / 2)
          case rel => exact ⟨t + 1, u / 2, rfl, by go_num, by go_num, by rw [← Htu.out, Lib.bitLen_half u (by omega) hu]; omega, by omega, rfl⟩
          case measure => have := Hqu.out; omega
        · obtain rfl : u = 0 := by omega
          obtain rfl : t = W := by have := Htu.out; have e : Lib.bitLen 0 = 0 := rfl; omega
          go_wp2_with fail
          go_loopg [9, 49] n (fun q v i wx => ∃ j : Nat, j ≤ n ∧ q = n - j ∧ i = .int .i64 j ∧ wx.ownsRow B 4 1 v (j * t) ((allBits t m (L.take j)).map Value.bool) ∧ Keeps (fun b => B ≤ b) w wx)
          case atStart => exact ⟨0, Nat.zero_le _, rfl, rfl, by rw [Nat.zero_mul]; exact World.ownsRow_nil _ _ _ _, hkr.no⟩
          case round =>
            obtain ⟨j, hj, hq, rfl, hown, hkx⟩ := hrel
            have Hqj := Lib.hid hq
            clear hq
            have hzx := hkx.size
            by_cases hlt : j < n
            · have hjL : j < L.length := by rw [Hlen.out]; exact hlt
              have hix := hs.ix (P := Tryz.prog) Tryz.underlying63 (by kernel_rfl) hlt .i64
              have hc := (hs.keep hkx (fun h => by have := hsB h; omega)).at_ hlt
              obtain ⟨x, hx⟩ : ∃ x, x = L[j] := ⟨_, rfl⟩
              have hb : (L.map intV).getD j undef = .int .i64 x := by rw [hx]; simp [hjL, intV]
              rw [hb] at hc
              have hxm : x ∈ L := by rw [hx]; exact List.getElem_mem _
              have hsx := sub_u64 (HI.out _ hxm) hlo (by have := min_le hxm; rw [Hm.out] at this; exact this)
              have hst : allBits t m (L.take (j + 1)) = allBits t m (L.take j) ++ lowBits t (x - m).toNat := by rw [List.take_succ_eq_append_getElem hjL, allBits_snoc, ← hx]
              have hux : (x - m).toNat < 18446744073709551616 := by have := HI.out _ hxm; omega
              generalize (x - m).toNat = u at hsx hst hux
              have hjW : j * t + t ≤ 1000 * 64 := by
                have := Nat.mul_le_mul (show j + 1 ≤ 1000 by omega) hw64
                rw [Nat.add_mul] at this; omega
              generalize hP : allBits t m (L.take j) = P at hst hown
              generalize hJ : j * t = J at hjW hown
              have HJ := Lib.hid hJ
              have Hst := Lib.hid hst
              clear hb hx hxm hst hP hJ
              go_wp2_with fail
              go_loopg [9, 12, 13] t (fun q v d i wy => ∃ k y : Nat, k ≤ t ∧ q = t - k ∧ i = .int .i64 k ∧ d = .int .u64 y ∧ y = u / 2 ^ k ∧ y < 18446744073709551616 ∧ wy.ownsRow B 4 1 v (J + k) ((P ++ lowBits k u).map Value.bool) ∧ Keeps (fun b => B ≤ b) w wy)
              case atStart => exact ⟨0, u, Nat.zero_le _, rfl, rfl, rfl, by simp, hux, by simpa [lowBits] using hown, hkx⟩
              case round =>
                obtain ⟨k, y, hk, hq, rfl, rfl, hy, hyl, hownk, hky⟩ := hrel
                have Hqk := Lib.hid hq
                have hzy := hky.size
                have e : (((y : Int) % 2) == 1) = u.testBit k := by
                  rw [Nat.testBit_eq_decide_div_mod_eq, ← hy]
                  by_cases hh : y % 2 = 1
                  · have : (y : Int) % 2 = 1 := by omega
                    simp [this, hh]
                  · have : (y : Int) % 2 = 0 := by omega
                    simp [this, hh]
                have Hy := Lib.hid hy
                clear hq hy
                by_cases hkl : k < t
                · go_wp2_with (at_builtin; go_loud (refine app_own rfl _ _ 43 rfl B 4 (.bool false) 1 Tryz.underlying43 bool_info rfl (by decide) _ (J + k) ((P ++ lowBits k u).map Value.bool) rfl (hownk.alloc _) _ 1 1 [.bool (u.testBit k)] rfl (Sl.one _ _ _) ?h1 ?hb ?hB ?_))
                  case h1 => first | rfl | (intro u hu; simp at hu; subst hu; rfl)
                  case hb => omega
                  case hB => have := HB.out; first | omega | (simp; omega)
                  intro v' w6 hown6 hg6
                  go_wp2_with fail
                  go_roundg (t - (k + 1))
                  case rel =>
                    refine ⟨k + 1, y / 2, by omega, rfl, by go_num, by go_num, by rw [Hy.out, Nat.pow_succ, Nat.div_div_eq_div_mul], by omega, ?_, (hky.alloc _).grown hg6 (fun b hb _ => (hownk.lt b hb).1)⟩
                    rw [lowBits_succ]
                    simpa [Nat.add_assoc] using hown6
                  case measure => have := Hqk.out; omega
                · obtain rfl : t = k := by omega
                  go_wp2_with fail
                  go_roundg (n - (j + 1))
                  case rel => exact ⟨j + 1, by omega, rfl, by go_num, by rw [Hst.out, Nat.add_mul, HJ.out, Nat.one_mul]; exact hownk, hky⟩
                  case measure => have := Hqj.out; omega
            · obtain rfl : n = j := by omega
              rw [show L.take n = L from List.take_of_length_le (by rw [Hlen.out]; omega)] at hown
              have hnW : n * t ≤ 1000 * 64 := Nat.mul_le_mul hn hw64
              generalize hA : allBits t m L = A at hown
              generalize hX : n * t = X at hown hnW
              have HA := Lib.hid hA
              clear hA hX
              obtain ⟨ab, cb, rfl, hsb, hfb⟩ := Sl.ofOwn hown
              have hAl : A.length = X := by simpa using hsb.len
              have hcw : IntKind.u8.wrap (t : Int) = ((UInt8.ofNat t).toNat : Int) := by rw [ofNat_toNat (by omega), IntKind.wrap_u8]; omega
              have hcw' : bitsTail L = UInt8.ofNat t :: putTo A A.length := by unfold bitsTail; rw [HW.out, Hm.out, HA.out]
              have hpl : (putTo A A.length).length = (A.length + 7) / 8 := putTo_length _ _
              have hfold := nat7_len64 (fold m) (fold_lt hlo)
              have hfl := fold_lt hlo
              have hput : bitsPut L = nat7 (fold m) ++ bitsTail L := by unfold bitsPut; rw [if_neg HL.out, Hm.out]
              rw [hcw', ← refPut_eq] at hput
              rw [← refPut_eq, hAl] at hpl
              generalize UInt8.ofNat t = cw at hcw hput
              generalize hPA : refPut A = PA at hpl hput
              generalize hF : nat7 (fold m) = F at hfold hput
              have HPA := Lib.hid hPA
              have HF := Lib.hid hF
              have Hput := Lib.hid hput
              have Hpl := Lib.hid hpl
              clear hAl hcw' hput hPA hF hpl
              go_wp2_with fail
              refine (folded_any m _ (wf_int hlo)).mono ?_
              rintro e w1 ⟨rfl, rfl⟩
              go_wp2_with fail
              refine (refNat_any (fold m) _ hfl).mono ?_
              rintro e w2 ⟨v2, rfl, hown2, hk2⟩
              rw [HF.out] at hown2
              generalize hBx : wr.heap.size = Bx at hown2
              have HBx := Lib.hid hBx
              clear hBx
              have hz2 := hk2.size
              go_wp2_with (at_builtin; go_loud (refine app_own rfl _ _ 22 rfl Bx 5 (.int .u8 0) 1 Tryz.underlying22 ones_info rfl (by decide) _ F.length (F.map byteV) rfl (hown2.alloc _) _ 1 1 [byteV cw] rfl (Sl.one _ _ _) ?h1 ?hb ?hB ?_))
              case h1 => first | rfl | (intro u hu; simp at hu; subst hu; rfl)
              case hb => omega
              case hB => have := HBx.out; first | omega | (simp; omega)
              intro v3 w3 hown3 hg3
              have hk23 : Keeps (fun b => Bx ≤ b) w2 w3 := ((Keeps.refl (fun b => Bx ≤ b) _).alloc _).grown hg3 (fun b hb _ => (hown2.lt b hb).1)
              have hk3 : Keeps (fun b => B ≤ b) w w3 := (hkx.transNo hk2).trans hk23 (fun i hi h => by have := HBx.out; have := HB.out; omega)
              have hz3 := hk3.size
              have hsb3 := hsb.keep (((hk2.no (S := fun b => Bx ≤ b)).trans hk23 (fun _ _ h => h)) : Keeps (fun b => Bx ≤ b) wr w3) (fun h => by have := hsb.lt h; have := HBx.out; omega)
              go_wp2_with fail
              refine (refPut_any ab X cb A _ hsb3 (by omega)).mono ?_
              rintro e w4 ⟨v4, rfl, hown4, hk4⟩
              rw [HPA.out] at hown4
              obtain ⟨a4, c4, rfl, hs4, hf4⟩ := Sl.ofOwn hown4
              have hown3' := hk4.own hown3 (fun _ _ => not_No _)
              have hz34 : Bx ≤ w4.heap.size := by have h1 := hk4.size; have h2 := hk23.size; have := HBx.out; omega
              go_wp2_with (at_builtin; go_loud (refine app_own rfl _ _ 22 rfl Bx 5 (.int .u8 0) 1 Tryz.underlying22 ones_info rfl (by decide) _ (F.length + 1) (F.map byteV ++ [byteV cw]) rfl hown3' a4 PA.length c4 (PA.map byteV) rfl hs4 ?h1 ?hb ?hB ?_))
              case h1 => intro u hu; obtain ⟨_, _, rfl⟩ := List.mem_map.1 hu; rfl
              case hb => have := Hpl.out; omega
              case hB => omega
              intro v5 w5 hown5 hg5
              obtain ⟨a5, c5, rfl, hs5, hf5⟩ := Sl.ofOwn hown5
              go_wp2_with fail
              go_ret
              refine ⟨a5, _, c5, rfl, ?_, (by have := Hpl.out; omega), (hk3.transNo hk4).grown hg5 (fun b hb h => ?_) |> fun h => ⟨h.os, h.tape, h.output, h.size, fun k hk hn => h.block k hk (fun hB => by have := HB.out; omega)⟩⟩
              · rw [Hput.out]
                simpa using hs5
              · have := (hown3'.lt b hb).1
                have := HBx.out
                have := hkx.size
                have := HB.out
                omega
end Go.Proofs.YthbipcjgpocpaaaGreat
