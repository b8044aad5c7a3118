/- The walks of the document's pages. -/
import Derived.Test.YthimnkmoeonheaaDoorPageW
import Derived.Test.YthimnkmoeonheaaDoorRefPack
import Derived.Test.YthimnkmoeonheaaDoorRefVault
import Derived.Test.YthimnkmoeonheaaDoorRefDevB
namespace Go.Proofs.YthimnkmoeonheaaDoor
open Go.RowKit
set_option linter.unusedSimpArgs false
set_option linter.unusedVariables false
set_option maxRecDepth 100000

set_option maxHeartbeats 1000000 in
theorem rbeside_any (p : PG) (b : Int) (w : World) (hb : (Lit.int .i64 b).wf = true) :
    Calls Tryd.prog 22 #[.agg (pgCells p).toArray, .int .i64 b] w fun e w' => e = .returned (.string ⟨(besideA p b).toArray⟩) ∧ Keeps No w w' := by
  have hkA : Keeps No w (w.alloc (.cells (pgCells p).toArray 25)) := (Keeps.refl No w).alloc _
  have hbA := heap_alloc_new w (.cells (pgCells p).toArray 25)
  have hpw : ∀ n ∈ pgNums p b, (Lit.int .i64 n).wf = true := by
    intro n hn
    simp only [pgNums, List.mem_cons, List.mem_nil_iff, or_false] at hn
    rcases hn with rfl | rfl | rfl | rfl | rfl | rfl
    · exact p.1.1.2
    · exact p.1.2.1.2
    · exact p.1.2.2.2
    · exact p.2.1.2
    · exact p.2.2.2
    · exact hb
  have Hpw := Lib.hid hpw
  obtain ⟨N, hN⟩ : ∃ N, N = pgNums p b := ⟨_, rfl⟩
  have hN6 : N.length = 6 := by rw [hN]; rfl
  have HN := Lib.hid hN
  have HN6 := Lib.hid hN6
  have hlenB := besideA_len p b (wf_i64_iff hb)
  have hbL := heap_alloc_new (w.alloc (.cells (pgCells p).toArray 25)) (.cells #[.int .i64 p.1.1.1, .int .i64 p.1.2.1.1, .int .i64 p.1.2.2.1, .int .i64 p.2.1.1, .int .i64 p.2.2.1, .int .i64 b] 3)
  have hkL : Keeps No w ((w.alloc (.cells (pgCells p).toArray 25)).alloc (.cells #[.int .i64 p.1.1.1, .int .i64 p.1.2.1.1, .int .i64 p.1.2.2.1, .int .i64 p.2.1.1, .int .i64 p.2.2.1, .int .i64 b] 3)) := hkA.alloc _
  have hsN : Sl ((w.alloc (.cells (pgCells p).toArray 25)).alloc (.cells #[.int .i64 p.1.1.1, .int .i64 p.1.2.1.1, .int .i64 p.1.2.2.1, .int .i64 p.2.1.1, .int .i64 p.2.2.1, .int .i64 b] 3)) (some ⟨w.heap.size + 1, 0, none⟩) 6 6 (N.map (Value.int .i64)) := by
    have := Sl.lit (w.alloc (.cells (pgCells p).toArray 25)) #[.int .i64 p.1.1.1, .int .i64 p.1.2.1.1, .int .i64 p.1.2.2.1, .int .i64 p.2.1.1, .int .i64 p.2.2.1, .int .i64 b] 3 (N.map (Value.int .i64)) (by rw [hN]; rfl) 6 (by simp [hN6]) (by decide)
    rwa [show (w.alloc (.cells (pgCells p).toArray 25)).heap.size = w.heap.size + 1 from by simp] at this
  clear hpw hN hN6 hb hbL
  obtain ⟨x0, x1, x2, x3, x4⟩ := pg_cells hbA
  unfold pgCells at hkA hbA hkL hsN x0 x1 x2 x3 x4 ⊢
  go_enter Tryd.func22, Tryd.ntmps22
  go_wp2_with fail
  go_loopg [5, 24] 6 (fun q v i wr => ∃ (k : Nat), k ≤ 6 ∧ q = 6 - k ∧ i = .int .i64 (k : Int) ∧ v = .string ⟨(besideL (N.take k)).toArray⟩ ∧ Sl wr (some ⟨w.heap.size + 1, 0, none⟩) 6 6 (N.map (Value.int .i64)) ∧ Keeps No w wr)
  case atStart => exact ⟨0, by omega, rfl, rfl, rfl, hsN, hkL⟩
  case round =>
    clear hsN
    obtain ⟨k, hk6, hq, rfl, rfl, hsl, hkr⟩ := hrel
    have Hq := Lib.hid hq
    clear hq
    by_cases hlt : k < 6
    · have hkN : k < N.length := by rw [HN6.out]; exact hlt
      have hix := hsl.ix (P := Tryd.prog) Tryd.underlying50 (by kernel_rfl) hlt .i64
      have hcm := hsl.at_ hlt
      obtain ⟨x, hx⟩ : ∃ x, x = N[k] := ⟨_, rfl⟩
      have hbv : (N.map (Value.int .i64)).getD k undef = .int .i64 x := by rw [hx]; simp [hkN]
      rw [hbv] at hcm
      simp only [Option.getD_some, Addr.add_lit, Nat.zero_add] at hix hcm
      have hxw : (Lit.int .i64 x).wf = true := Hpw.out _ (by rw [← HN.out, hx]; exact List.getElem_mem hkN)
      have hnx : besideL (N.take (k + 1)) = besideL (N.take k) ++ nat7 (fold x) := by rw [List.take_succ_eq_append_getElem hkN, besideL_snoc, ← hx]
      have hlk : (besideL (N.take k)).length ≤ 60 := by
        have e : besideA p b = besideL (N.take k) ++ besideL (N.drop k) := by
          unfold besideA
          rw [← HN.out]
          unfold besideL
          rw [← List.flatMap_append, List.take_append_drop]
        have := congrArg List.length e
        rw [List.length_append] at this
        omega
      have hfl := fold_lt (wf_i64_iff hxw)
      have h10 := nat7_len64 _ hfl
      have Hnx := Lib.hid hnx
      have Hx := Lib.hid hx
      generalize besideL (N.take k) = cur at hlk Hnx ⊢
      have hadd := fun wx => run_add_bytes (P := Tryd.prog) wx cur (nat7 (fold x)) (by omega)
      clear hx hnx hbv
      go_wp2_with fail
      refine (folded_any x _ hxw).mono ?_
      rintro e w2 ⟨rfl, rfl⟩
      go_wp2_with fail
      refine (refNat_any (fold x) _ hfl).mono ?_
      rintro e w2 ⟨v2, rfl, hown2, hk2⟩
      obtain ⟨a2, c2, rfl, hs2, _⟩ := Sl.ofOwn hown2
      have hst := strB hs2
      go_wp2_with fail
      go_roundg (6 - (k + 1))
      case measure => have := Hq.out; omega
      case rel => exact ⟨k + 1, by omega, rfl, by go_num, by rw [Hnx.out], hsl.kept hk2, hkr.transNo hk2⟩
    · obtain rfl : k = 6 := by omega
      have hfin : besideL (N.take 6) = besideA p b := by rw [List.take_of_length_le (by rw [HN6.out]; exact Nat.le_refl _), HN.out]; rfl
      rw [hfin]
      clear hfin
      go_wp2_with fail
      go_ret
      exact ⟨rfl, hkr⟩

set_option maxHeartbeats 1000000 in
theorem rbytes_any (h64 : Nat) (w : World) (hh : h64 < 18446744073709551616) :
    Calls Tryd.prog 62 #[.int .u64 (h64 : Int)] w fun e w' => e = .returned (.string ⟨(bytes8 h64).toArray⟩) ∧ Keeps No w w' := by
  go_enter Tryd.func62, Tryd.ntmps62
  go_wp2_with fail
  go_loopg [3, 4] 8 (fun q v i wr => ∃ (k : Nat), k ≤ 8 ∧ q = 8 - k ∧ i = .int .i64 (k : Int) ∧ wr.ownsRow w.heap.size 5 1 v k (((bytes8 h64).take k).map byteV) ∧ Keeps No w wr)
  case atStart => exact ⟨0, by omega, rfl, rfl, World.ownsRow_nil _ _ _ _, Keeps.refl _ _⟩
  case round =>
    obtain ⟨k, hk, hq, rfl, hor, hkr⟩ := hrel
    have Hq := Lib.hid hq
    clear hq
    obtain ⟨av, cv, rfl, hsv, _⟩ := Sl.ofOwn hor
    by_cases hlt8 : k < 8
    · have hbv : (byteV (UInt8.ofNat (h64 / 2 ^ (8 * k)))) = .int .u8 ((h64 : Int) / 2 ^ (8 * k) % 256) := by
        unfold byteV
        congr 1
      have hlB := Sl.litK wr #[.int .u8 ((h64 : Int) / 2 ^ (8 * k) % 256)] 5 (0, 0) [UInt8.ofNat (h64 / 2 ^ (8 * k))] (by rw [List.map_cons, hbv, List.map_nil]) 1 rfl (by decide)
      have hkB : Keeps No wr (wr.alloc (.cells #[.int .u8 ((h64 : Int) / 2 ^ (8 * k) % 256)] 5)) := (Keeps.refl No wr).alloc _
      have hnx := bytes8_take h64 k hlt8
      have Hnx := Lib.hid hnx
      have hz4 := (hkr.transNo hkB).size
      clear hbv hnx
      go_wp2_with (at_builtin; refine app_own rfl (.tmp 9) (.tmp 16) 35 rfl w.heap.size 5 (.int .u8 0) 1 Tryd.underlying35 byte_infoD rfl (by decide) _ k _ rfl (hkB.own hor (fun _ _ => not_No _)) _ 1 1 _ rfl hlB (byteV_one _) (by omega) hz4 ?_)
      intro v5 w5 hown5 hg5
      have hk5 : Keeps No w w5 := (hkr.transNo hkB).grown hg5 (fun i hi hlt => absurd hlt (by have := (hor.lt i hi).1; omega))
      replace hown5 : w5.ownsRow w.heap.size 5 1 v5 (k + 1) (((bytes8 h64).take (k + 1)).map byteV) := by rw [Hnx.out, List.map_append]; simpa using hown5
      have Hown5 := Lib.hid hown5
      clear hown5 hg5 hlB
      go_wp2_with fail
      go_roundg (8 - (k + 1))
      case measure => have := Hq.out; omega
      case rel => exact ⟨k + 1, by omega, rfl, by go_num, Hown5.out, hk5⟩
    · obtain rfl : k = 8 := by omega
      rw [List.take_of_length_le (by rw [bytes8_len]; exact Nat.le_refl _)] at hsv
      have hst := strB hsv
      go_wp2_with fail
      go_ret
      exact ⟨rfl, hkr⟩

theorem str_atP (b : List UInt8) (i : Nat) (h : i < b.length) (wx : World) : (Instr.index 9 (.string ⟨b.toArray⟩) (.int .i64 (i : Int))).run Tryd.prog wx = .ok (.int .u8 ((b[i]).toNat : Int)) wx := by
  rw [run_index_string (P := Tryd.prog) wx 9 ⟨b.toArray⟩ .i64 (i : Int) Tryd.underlying9, dif_pos ⟨by omega, by simp [ByteArray.size]; omega⟩]
  rfl
theorem hDn_drop (b : List UInt8) (k : Nat) (h : k < b.length) : hDn (b.drop k) = (b[k]).toNat + 256 * hDn (b.drop (k + 1)) := by
  rw [List.drop_eq_getElem_cons h]; rfl

set_option maxHeartbeats 1000000 in
theorem rhandle_any (b : List UInt8) (w : World) (hb : b.length ≤ 140737488351232) :
    Calls Tryd.prog 20 #[.string ⟨b.toArray⟩] w fun e w' => e = .returned (.tuple #[.int .u64 ((handleA b).1 : Int), .bool (handleA b).2]) ∧ w = w' := by
  obtain ⟨R, hR⟩ : ∃ R, R = handleA b := ⟨_, rfl⟩
  rw [← hR]
  unfold handleA at hR
  have HR := Lib.hid hR
  have hsz : (⟨b.toArray⟩ : ByteArray).size = b.length := by simp [ByteArray.size]
  clear hR
  go_enter Tryd.func20, Tryd.ntmps20
  by_cases h16 : b.length = 16
  case neg =>
    have q1 : ((b.length : Int) == 16) = false := by rw [beq_eq_false_iff_ne]; omega
    have q2 : ((b.length : Int) != 16) = true := by rw [bne, q1]; rfl
    have HN := Lib.hid h16
    clear h16
    go_wp2_with fail
    go_ret2
    rw [HR.out, if_neg (fun h => HN.out h.1)]
    exact ⟨rfl, rfl⟩
  rw [h16] at hsz
  have H16 := Lib.hid h16
  clear h16
  have hl8 : (b.take 8).length = 8 := by rw [List.length_take]; have := H16.out; omega
  have hex : ((⟨b.toArray⟩ : ByteArray).extract 8 16).toList = b.drop 8 := by
    rw [ByteArray.toList_eq, ByteArray.data_extract]
    show (b.toArray.extract 8 16).toList = _
    rw [Array.toList_extract]
    show ((b.drop 8).take 8) = _
    exact List.take_of_length_le (by rw [List.length_drop]; have := H16.out; omega)
  have hzz : (b.drop 8 = [0, 0, 0, 0, 0, 0, 0, 0]) ↔ (∀ x ∈ b.drop 8, x = 0) := by
    have h8 : (b.drop 8).length = 8 := by rw [List.length_drop]; have := H16.out; omega
    rw [show ([0, 0, 0, 0, 0, 0, 0, 0] : List UInt8) = List.replicate 8 0 from rfl, List.eq_replicate_iff]
    exact ⟨fun h => h.2, fun h => ⟨h8, h⟩⟩
  by_cases hz : ∀ x ∈ b.drop 8, x = 0
  case neg =>
    have q : (((⟨b.toArray⟩ : ByteArray).extract 8 16).toList == ([0, 0, 0, 0, 0, 0, 0, 0] : List UInt8)) = false := by
      rw [hex, beq_eq_false_iff_ne]; exact fun e => hz (hzz.1 e)
    have HN := Lib.hid hz
    clear hz hex hzz
    go_wp2_with fail
    go_ret2
    rw [HR.out, if_neg (fun h => HN.out h.2)]
    exact ⟨rfl, rfl⟩
  have q : (((⟨b.toArray⟩ : ByteArray).extract 8 16).toList == ([0, 0, 0, 0, 0, 0, 0, 0] : List UInt8)) = true := by
    rw [hex, beq_iff_eq]; exact hzz.2 hz
  have Hz := Lib.hid hz
  clear hz hex hzz
  go_wp2_with fail
  go_loopg [4, 5] 8 (fun q v i wr => ∃ k : Nat, k ≤ 8 ∧ q = k ∧ i = .int .i64 ((k : Int) - 1) ∧ v = .int .u64 (hDn ((b.take 8).drop k) : Int) ∧ w = wr)
  case atStart => exact ⟨8, by omega, rfl, by go_num, by rw [List.drop_eq_nil_of_le (by omega)]; rfl, rfl⟩
  case round =>
    obtain ⟨k, hk, hq, rfl, rfl, rfl⟩ := hrel
    have Hq := Lib.hid hq
    clear hq
    by_cases hlt : 0 < k
    · obtain ⟨j, rfl⟩ : ∃ j, k = j + 1 := ⟨k - 1, by omega⟩
      have hj8 : j < (b.take 8).length := by omega
      have hjb : j < b.length := by have := H16.out; omega
      have hgj : (b.take 8)[j] = b[j] := by simp
      have hix := fun wx => str_atP b j hjb wx
      have hnx := hDn_drop (b.take 8) j hj8
      rw [hgj] at hnx
      have hb1 := hDn_lt ((b.take 8).drop (j + 1))
      have hb2 : hDn ((b.take 8).drop (j + 1)) < 256 ^ 7 := Nat.lt_of_lt_of_le hb1 (Nat.pow_le_pow_right (by decide) (by rw [List.length_drop]; omega))
      have hx := (b[j]).toNat_lt
      have HNX := Lib.hid hnx
      have ej : (((j + 1 : Nat) : Int) - 1) = (j : Int) := by omega
      rw [ej]
      generalize hDn ((b.take 8).drop (j + 1)) = hh at HNX hb2 ⊢
      generalize (b[j]).toNat = xx at HNX hx hix ⊢
      clear hnx hb1 hgj ej
      go_wp2_with fail
      go_roundg j
      case measure => have := Hq.out; omega
      case rel => exact ⟨j, by omega, rfl, by go_num, by rw [HNX.out]; go_num, rfl⟩
    · obtain rfl : k = 0 := by omega
      have hfin : R = (hOf b, decide (hOf b ≠ 0)) := by rw [HR.out, if_pos ⟨H16.out, Hz.out⟩]
      have hd0 : hDn ((b.take 8).drop 0) = hOf b := rfl
      rw [hd0]
      have Hfin := Lib.hid hfin
      generalize hOf b = h at Hfin ⊢
      clear hfin hd0
      by_cases h0 : h = 0
      · subst h0
        go_wp2_with fail
        go_ret2
        exact ⟨by rw [Hfin.out]; rfl, rfl⟩
      · have q1 : decide ((0 : Int) < (h : Int)) = true := by simp; omega
        have q2 : 0 < h := by omega
        have hd : decide (h ≠ 0) = true := by simpa using h0
        have Hd := Lib.hid hd
        clear hd h0
        go_wp2_with fail
        go_ret2
        exact ⟨by rw [Hfin.out, Hd.out]; rfl, rfl⟩
end Go.Proofs.YthimnkmoeonheaaDoor
