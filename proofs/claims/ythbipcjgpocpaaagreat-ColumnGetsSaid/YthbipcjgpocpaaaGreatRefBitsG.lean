/- The document's Get of numbers by few bits. -/
import Derived.Test.YthbipcjgpocpaaaGreatRefBits
import Derived.Test.YthbipcjgpocpaaaGreatRefRunsG
namespace Go.Proofs.YthbipcjgpocpaaaGreat
open Go.RowKit
set_option linter.unusedSimpArgs false
set_option linter.unusedVariables false

theorem outOf_succ (V : Int) (W j : Nat) (A : List Bool) : outOf V W (j + 1) A = outOf V W j A ++ [wrap64 (V + (val ((A.drop (j * W)).take W) : Int))] := by
  simp [outOf, valAt, List.range_succ]
theorem unit_step (k : Nat) : (2 ^ k % 18446744073709551616) * 2 % 18446744073709551616 = 2 ^ (k + 1) % 18446744073709551616 := by
  rw [Nat.pow_succ]; omega

set_option maxRecDepth 100000 in
set_option maxHeartbeats 4000000 in
theorem rbget_any (a : Option Addr) (m c : Nat) (b : List UInt8) (n : Int) (w : World) (hs : Sl w a m c (b.map byteV)) (hm : m ≤ 100000) (hn : (Lit.int .i64 n).wf = true) :
    Calls Tryz.prog 37 #[.slice a m c, .int .i64 n] w (RGetPost (bitsGet b n) w) := by
  have hw := wf_i64_iff hn
  have hlen : b.length = m := by simpa using hs.len
  have Hlen := Lib.hid hlen
  clear hlen
  go_enter Tryz.func37, Tryz.ntmps37
  by_cases h0 : n < 0
  · go_wp2_with fail
    go_ret2
    exact RGetPost.no' (if_pos (.inl h0)) (Keeps.refl _ _)
  by_cases h1 : 256 < n
  · go_wp2_with fail
    go_ret2
    exact RGetPost.no' (if_pos (.inr h1)) (Keeps.refl _ _)
  obtain ⟨N, rfl⟩ : ∃ N : Nat, n = (N : Int) := ⟨n.toNat, by omega⟩
  have hrg : bitsGet b (N : Int) = getN b N (refB b N) := by
    rw [bitsGet_ref]
    unfold refBitsGet
    rw [if_neg (by omega)]
    rfl
  have Hrg := Lib.hid hrg
  have hN : N ≤ 256 := by omega
  clear hn hw h0 hrg h1
  by_cases hN0 : N = 0
  · subst hN0
    by_cases hm0 : m = 0
    · subst hm0
      have hb0 : b = [] := List.eq_nil_of_length_eq_zero Hlen.out
      have Hb0 := Lib.hid hb0
      clear hb0
      go_wp2_with fail
      go_ret2
      exact RGetPost.ok' (l := []) (by rw [Hrg.out, Hb0.out]; rfl) (World.ownsRow_nil _ _ _ _) (Keeps.refl _ _)
    · have hm1 : ((m : Int) == 0) = false := by rw [beq_eq_false_iff_ne]; omega
      go_wp2_with fail
      go_ret2
      refine RGetPost.no' ?_ (Keeps.refl _ _)
      rw [Hrg.out]
      unfold getN
      rw [if_pos rfl, if_neg]
      intro h
      apply hm0
      rw [← Hlen.out, h]; rfl
  have hNb : ((N : Int) == 0) = false := by rw [beq_eq_false_iff_ne]; omega
  have hgn : bitsGet b (N : Int) = (natGo 0 0 b).bind (fun p => refB b N p.1 p.2) := by
    rw [Hrg.out]; unfold getN; rw [if_neg hN0]; cases natGo 0 0 b <;> rfl
  go_wp2_with fail
  refine (read_any a m c b _ hs (by omega)).mono ?_
  rintro e w1 ⟨rfl, rfl⟩
  cases hr0 : natGo 0 0 b with
  | none =>
    have hno : bitsGet b (N : Int) = none := by rw [hgn, hr0]; rfl
    have Hno := Lib.hid hno
    rw [readP_none hr0]
    have Hr0 := Lib.hid hr0
    clear hno hr0 hgn
    simp only
    go_wp2_with fail
    go_ret2
    exact RGetPost.no' Hno.out (Keeps.refl _ _)
  | some x0 =>
    obtain ⟨u, r0⟩ := x0
    obtain ⟨e1, e2, e3, e4⟩ := readP_some hr0
    have hu := (natGo_lt64 hr0).1
    rw [hr0] at hgn
    replace hgn : bitsGet b (N : Int) = refB b N u r0 := hgn
    obtain ⟨k0, hk0⟩ : ∃ k0, k0 = (readP b).2 := ⟨_, rfl⟩
    rw [e1]
    rw [← hk0] at e2 e3 e4 ⊢
    have hne : ((k0 : Int) == 0) = false := by simp; omega
    have hk0m : k0 ≤ m := by rw [← Hlen.out]; exact e3
    have Hk0 := Lib.hid hk0
    clear hr0 e1 e3 hk0
    by_cases hkm : k0 = m
    · have hno : bitsGet b (N : Int) = none := by
        rw [hgn, e4, List.drop_of_length_le (by rw [Hlen.out]; omega)]; rfl
      have Hno := Lib.hid hno
      have hkb : ((k0 : Int) == (m : Int)) = true := by simp; omega
      clear hno hgn e4 hkm
      go_wp2_with fail
      go_ret2
      exact RGetPost.no' Hno.out (Keeps.refl _ _)
    have hlt : k0 < m := by omega
    have hkb : ((k0 : Int) == (m : Int)) = false := by simp; omega
    have hkl : k0 < b.length := by rw [Hlen.out]; exact hlt
    obtain ⟨x, hx⟩ : ∃ x, x = b[k0] := ⟨_, rfl⟩
    obtain ⟨rest, hrest⟩ : ∃ rest, rest = b.drop (k0 + 1) := ⟨_, rfl⟩
    have hcons : r0 = x :: rest := by rw [e4, hx, hrest]; exact List.drop_eq_getElem_cons hkl
    have hix := hs.ix (P := Tryz.prog) Tryz.underlying22 (by kernel_rfl) hlt .i64
    have hc := hs.at_ hlt
    have hb : (b.map byteV).getD k0 undef = .int .u8 (x.toNat : Int) := by rw [hx]; simp [hkl, byteV]
    rw [hb] at hc
    rw [hcons] at hgn
    unfold refB at hgn
    simp only at hgn
    clear hb hcons e4 hx hkm
    obtain ⟨W, hXW⟩ : ∃ W, W = x.toNat := ⟨_, rfl⟩
    rw [← hXW] at hgn hc
    by_cases hX : 64 < W
    · rw [if_pos hX] at hgn
      have hX' : (64 : Int) < (W : Int) := by omega
      have Hgn := Lib.hid hgn
      clear hgn hXW hrest
      go_wp2_with fail
      go_ret2
      exact RGetPost.no' (by rw [Hgn.out]) (Keeps.refl _ _)
    rw [if_neg hX] at hgn
    have hX' : ¬ (64 : Int) < (W : Int) := by omega
    obtain ⟨a5, hf1, hf2, hs5, -⟩ := hs.from_ (P := Tryz.prog) Tryz.underlying22 (by kernel_rfl) (k := k0 + 1) (by omega) .i64 ((k0 : Int) + 1) (by omega)
    rw [← List.map_drop, ← hrest] at hs5
    have hNW : N * W ≤ 256 * 64 := Nat.mul_le_mul hN (by omega)
    have hmul : (N : Int) * (W : Int) = ((N * W : Nat) : Int) := by push_cast; rfl
    have hjm : ∀ j : Nat, (j : Int) * (W : Int) = ((j * W : Nat) : Int) := fun j => by push_cast; rfl
    have Hjm := Lib.hid hjm
    have hvl : ∀ i, i < N → i * W + W ≤ N * W := fun i hi => by
      have := Nat.mul_le_mul_right W (show i + 1 ≤ N by omega)
      rw [Nat.add_mul] at this; omega
    have Hvl := Lib.hid hvl
    have hk01 : (k0 : Int) + 1 ≤ (m : Int) := by omega
    have hV : -9223372036854775808 ≤ unfoldN u ∧ unfoldN u ≤ 9223372036854775807 := by unfold unfoldN; split <;> omega
    have Hgn := Lib.hid hgn
    clear hjm hvl hXW hrest hgn
    generalize hNWg : N * W = NW at hNW hmul
    have HNW := Lib.hid hNWg
    clear hNWg
    go_wp2_with fail
    refine (refBits_any a5 (m - (k0 + 1)) (c - (k0 + 1)) rest _ hs5 (by omega)).mono ?_
    rintro e w5 ⟨vA, rfl, hownA, hk5⟩
    have hAl := bitsOf_length rest
    have hrl : rest.length = m - (k0 + 1) := by simpa using hs5.len
    have hA8 : (bitsOf rest).length ≤ 800000 := by omega
    clear hAl
    generalize hA : bitsOf rest = A at hownA hA8
    have HA := Lib.hid hA
    clear hA
    generalize hLB : A.length = LB at hownA hA8
    have HLB := Lib.hid hLB
    clear hLB
    obtain ⟨aA, cA, rfl, hsA, hfA⟩ := Sl.ofOwn hownA
    have hz5 := hk5.size
    by_cases hL : LB < NW
    · have hno : bitsGet b (N : Int) = none := by rw [Hgn.out, HA.out, HLB.out, HNW.out, if_pos hL]
      have Hno := Lib.hid hno
      have hL' : (LB : Int) < (NW : Int) := by omega
      clear hno
      go_wp2_with fail
      go_ret2
      exact RGetPost.no' Hno.out hk5
    have hfin : bitsGet b (N : Int) = chk b (outOf (unfoldN u) W N A) := by rw [Hgn.out, HA.out, HLB.out, HNW.out, if_neg hL]
    have Hfin := Lib.hid hfin
    have hL' : ¬ (LB : Int) < (NW : Int) := by omega
    clear hfin
    generalize hS : w5.heap.size = S
    have HS := Lib.hid hS
    have hsS : 0 < m → (a.getD default).block < S := fun h => by rw [← hS]; have := hs.lt h; omega
    have hsAS : 0 < LB → (aA.getD default).block < S := fun h => by rw [← hS]; exact hsA.lt h
    clear hS
    go_wp2_with fail
    go_loopg [10, 11] N (fun q v i wx => ∃ j : Nat, j ≤ N ∧ q = N - j ∧ i = .int .i64 j ∧ wx.ownsRow S 3 1 v j ((outOf (unfoldN u) W j A).map intV) ∧ Keeps (fun b => S ≤ b) w5 wx)
    case atStart => exact ⟨0, Nat.zero_le _, rfl, rfl, World.ownsRow_nil _ _ _ _, Keeps.refl _ _⟩
    case round =>
      obtain ⟨j, hj, hq, rfl, hown, hkr⟩ := hrel
      have Hq := Lib.hid hq
      clear hq
      have hzr := hkr.size
      by_cases hlj : j < N
      · have hjv := Hvl.out j hlj
        rw [HNW.out] at hjv
        have hmulj := Hjm.out j
        have hst := outOf_succ (unfoldN u) W j A
        generalize hJ : j * W = J at hjv hmulj hst
        have hsAr := hsA.keep hkr (fun h => by have := hsAS h; omega)
        have Hst := Lib.hid hst
        clear hst hJ
        go_wp2_with fail
        go_loopg [12, 13, 14] W (fun q d y i wx => ∃ k z : Nat, k ≤ W ∧ q = W - k ∧ i = .int .i64 k ∧ d = .int .u64 ((val ((A.drop J).take k) : Nat) : Int) ∧ y = .int .u64 z ∧ z = 2 ^ k % 18446744073709551616 ∧ z < 18446744073709551616 ∧ wx = wr)
        case atStart => exact ⟨0, 1, Nat.zero_le _, rfl, rfl, by rw [List.take_zero]; rfl, rfl, by decide, by decide, rfl⟩
        case round =>
          obtain ⟨k, z, hk, hq, rfl, rfl, rfl, hz, hzl, rfl⟩ := hrel
          have Hqk := Lib.hid hq
          have Hz := Lib.hid hz
          clear hq hz
          by_cases hkl : k < W
          · have hJk : J + k < LB := by omega
            have hixA := hsAr.ixz (P := Tryz.prog) Tryz.underlying43 (by kernel_rfl) ((J : Int) + (k : Int)) (i := J + k) (by omega) hJk .i64
            have hcA := hsAr.at_ hJk
            have hbA : (A.map Value.bool).getD (J + k) undef = .bool (A.getD (J + k) false) := by have := HLB.out; simp [show J + k < A.length by omega]
            rw [hbA] at hcA
            have hval := bget_val A J k (by have := HLB.out; omega)
            have hUl := take_val_lt (A.drop J) k
            have h2k : 2 ^ k < 18446744073709551616 := Nat.pow_lt_pow_right (a := 2) (by decide) (show k < 64 by omega)
            have hzk : z = 2 ^ k := by rw [Hz.out]; exact Nat.mod_eq_of_lt h2k
            have hUz : val ((A.drop J).take k) + z < 18446744073709551616 := by
              have : 2 ^ (k + 1) ≤ 2 ^ 64 := Nat.pow_le_pow_right (by decide) (by omega)
              rw [Nat.pow_succ] at this; omega
            generalize val ((A.drop J).take k) = U at hval hUl hUz
            generalize A.getD (J + k) false = t at hval hcA
            have Hval := Lib.hid hval
            have Hzk := Lib.hid hzk
            have hzn : z * 2 % 18446744073709551616 = 2 ^ (k + 1) % 18446744073709551616 := by rw [Hz.out]; exact unit_step k
            have Hzn := Lib.hid hzn
            clear hbA hval hUl h2k hzk hzn
            cases t
            · go_wp2_with fail
              go_roundg (W - (k + 1))
              case rel => exact ⟨k + 1, z * 2 % 18446744073709551616, by omega, rfl, by go_num, by rw [Hval.out]; rfl, by go_num, Hzn.out, Nat.mod_lt _ (by decide), rfl⟩
              case measure => have := Hqk.out; omega
            · go_wp2_with fail
              go_roundg (W - (k + 1))
              case rel => exact ⟨k + 1, z * 2 % 18446744073709551616, by omega, rfl, by go_num, by rw [Hval.out, ← Hzk.out]; simp, by go_num, Hzn.out, Nat.mod_lt _ (by decide), rfl⟩
              case measure => have := Hqk.out; omega
          · obtain rfl : W = k := by omega
            generalize hUg : val ((A.drop J).take W) = U at Hst
            clear hUg
            have hwr := st_wrap (unfoldN u) U
            go_wp2_with fail
            refine (unfolded_any u _ hu).mono ?_
            rintro e w6 ⟨rfl, rfl⟩
            go_wp2_with (at_builtin; go_loud (refine app_own rfl _ _ 63 rfl S 3 (.int .i64 0) 8 Tryz.underlying63 int_info rfl (by decide) _ j ((outOf (unfoldN u) W j A).map intV) rfl (hown.alloc _) _ 1 1 [.int .i64 (wrap64 (unfoldN u + (U : Int)))] rfl (Sl.one _ _ _) ?h1 ?hb ?hB ?_))
            case h1 => first | rfl | (intro u hu; simp at hu; subst hu; rfl)
            case hb => omega
            case hB => have := HS.out; first | omega | (simp; omega)
            intro v6 w6 hown6 hg6
            go_wp2_with fail
            go_roundg (N - (j + 1))
            case rel => exact ⟨j + 1, by omega, rfl, by go_num, by rw [Hst.out, List.map_append]; exact hown6, (hkr.alloc _).grown hg6 (fun b hb _ => (hown.lt b hb).1)⟩
            case measure => have := Hq.out; omega
      · obtain rfl : N = j := by omega
        have hOi := outOf_ints (unfoldN u) W N A
        have hOl := outOf_length (unfoldN u) W N A
        generalize outOf (unfoldN u) W N A = O at hOi hOl hown Hfin
        have HOi := Lib.hid hOi
        have HOl := Lib.hid hOl
        clear hOi hOl
        have hown' := hown
        obtain ⟨ao, co, rfl, hso, hfo⟩ := Sl.ofOwn hown
        have hkw : Keeps No w wr := hk5.trans hkr (fun i hi h => by have := HS.out; omega)
        have hsr := hs.kept hkw
        by_cases hE : bitsPut O = b
        · have hne : (bitsPut O == b) = true := by simp [hE]
          have HE := Lib.hid hE
          clear hE
          go_wp2_with fail
          refine wp_region_held_drew (S := fun wx => (convert 22 9 (.slice a m c)).run Tryz.prog wx = .ok (.string ⟨b.toArray⟩) wx) (by kernel_rfl) ((hsr.kept (Keeps.refl No wr).drew).str _ _ _ Tryz.underlying22 Tryz.underlying5 Tryz.underlying9) (fun hS => ?_)
          refine tk (i := 0) (oi := ⟨some 94, _, _, _, _, _⟩) (v := ?_) rfl (by kernel_rfl) (fun _ _ _ h => h) (by assumption) (by rfl) (fun w hSw => ?_) ?_; rotate_left; (focus (first | (go_simp; done) | (go_simp; with_reducible rfl))); simp only [Act.put, List.setIfInBounds_toArray, List.set_cons_zero, List.set_cons_succ]
          refine tk (i := 3) (oi := ⟨some 97, _, _, _, _, _⟩) (v := ?_) rfl (by kernel_rfl) (fun _ _ _ h => h) (by assumption) (by rfl) (fun w hSw => ?_) ?_; rotate_left; (focus (first | (go_simp; done) | (go_simp; with_reducible rfl))); simp only [Act.put, List.setIfInBounds_toArray, List.set_cons_zero, List.set_cons_succ]
          refine tk (i := 4) (oi := ⟨some 98, _, _, _, _, _⟩) (v := ?_) rfl (by kernel_rfl) (fun _ _ _ h => h) (by assumption) (by rfl) (fun w hSw => ?_) ?_; rotate_left; (focus (first | (go_simp; done) | (go_simp; with_reducible rfl))); simp only [Act.put, List.setIfInBounds_toArray, List.set_cons_zero, List.set_cons_succ]
          refine alone (i := 1) (oi := ⟨some 95, _, _, _, _, _⟩) rfl (by kernel_rfl) (by rfl) (fun K hK => ?_); go_simp
          refine (rbput_any _ _ _ O _ (hso.kept (Keeps.refl No wr).drew) HOi.out (by omega)).mono ?_
          rintro e w5 ⟨a5, m5, c5, rfl, hs5, -, hk5⟩
          have hc5 := hs5.str (P := Tryz.prog) 22 9 _ Tryz.underlying22 Tryz.underlying5 Tryz.underlying9
          refine hK.out (fun wx => (convert 22 9 (.slice a m c)).run Tryz.prog wx = .ok (.string ⟨b.toArray⟩) wx) _ _ (fun _ h => h) ((hsr.kept ((Keeps.refl No wr).drew.transNo hk5)).str _ _ _ Tryz.underlying22 Tryz.underlying5 Tryz.underlying9) ?_
          clear hK K hS
          intro hS
          refine alone (i := 2) (oi := ⟨some 96, _, _, _, _, _⟩) rfl (by kernel_rfl) (by rfl) (fun K hK => ?_); go_simp
          refine hK.out (fun wx => (convert 22 9 (.slice a m c)).run Tryz.prog wx = .ok (.string ⟨b.toArray⟩) wx) _ _ (fun _ h => h) (hS) ?_
          clear hK K hS
          intro hS
          refine tk (i := 5) (oi := ⟨some 99, _, _, _, _, _⟩) (v := ?_) rfl (by kernel_rfl) (fun _ _ _ h => h) (by assumption) (by rfl) (fun w hSw => ?_) ?_; rotate_left; (focus (first | (go_simp; done) | (go_simp; with_reducible rfl))); simp only [Act.put, List.setIfInBounds_toArray, List.set_cons_zero, List.set_cons_succ]
          refine wpAnyH_done (by kernel_rfl) ?_ _
          clear hS hc5
          go_wp2_with fail
          go_ret2
          refine RGetPost.ok' (l := O) (by rw [Hfin.out]; unfold chk; rw [if_pos HE.out]) ?_ (hkw.drew.transNo hk5)
          rw [HOl.out]
          exact own_le (hk5.own (hown'.drew) (fun _ _ => not_No _)) (by have := HS.out; omega)
        · have hne : (bitsPut O == b) = false := by simp [hE]
          have HE := Lib.hid hE
          clear hE
          go_wp2_with fail
          refine wp_region_held_drew (S := fun wx => (convert 22 9 (.slice a m c)).run Tryz.prog wx = .ok (.string ⟨b.toArray⟩) wx) (by kernel_rfl) ((hsr.kept (Keeps.refl No wr).drew).str _ _ _ Tryz.underlying22 Tryz.underlying5 Tryz.underlying9) (fun hS => ?_)
          refine tk (i := 0) (oi := ⟨some 94, _, _, _, _, _⟩) (v := ?_) rfl (by kernel_rfl) (fun _ _ _ h => h) (by assumption) (by rfl) (fun w hSw => ?_) ?_; rotate_left; (focus (first | (go_simp; done) | (go_simp; with_reducible rfl))); simp only [Act.put, List.setIfInBounds_toArray, List.set_cons_zero, List.set_cons_succ]
          refine tk (i := 3) (oi := ⟨some 97, _, _, _, _, _⟩) (v := ?_) rfl (by kernel_rfl) (fun _ _ _ h => h) (by assumption) (by rfl) (fun w hSw => ?_) ?_; rotate_left; (focus (first | (go_simp; done) | (go_simp; with_reducible rfl))); simp only [Act.put, List.setIfInBounds_toArray, List.set_cons_zero, List.set_cons_succ]
          refine tk (i := 4) (oi := ⟨some 98, _, _, _, _, _⟩) (v := ?_) rfl (by kernel_rfl) (fun _ _ _ h => h) (by assumption) (by rfl) (fun w hSw => ?_) ?_; rotate_left; (focus (first | (go_simp; done) | (go_simp; with_reducible rfl))); simp only [Act.put, List.setIfInBounds_toArray, List.set_cons_zero, List.set_cons_succ]
          refine alone (i := 1) (oi := ⟨some 95, _, _, _, _, _⟩) rfl (by kernel_rfl) (by rfl) (fun K hK => ?_); go_simp
          refine (rbput_any _ _ _ O _ (hso.kept (Keeps.refl No wr).drew) HOi.out (by omega)).mono ?_
          rintro e w5 ⟨a5, m5, c5, rfl, hs5, -, hk5⟩
          have hc5 := hs5.str (P := Tryz.prog) 22 9 _ Tryz.underlying22 Tryz.underlying5 Tryz.underlying9
          refine hK.out (fun wx => (convert 22 9 (.slice a m c)).run Tryz.prog wx = .ok (.string ⟨b.toArray⟩) wx) _ _ (fun _ h => h) ((hsr.kept ((Keeps.refl No wr).drew.transNo hk5)).str _ _ _ Tryz.underlying22 Tryz.underlying5 Tryz.underlying9) ?_
          clear hK K hS
          intro hS
          refine alone (i := 2) (oi := ⟨some 96, _, _, _, _, _⟩) rfl (by kernel_rfl) (by rfl) (fun K hK => ?_); go_simp
          refine hK.out (fun wx => (convert 22 9 (.slice a m c)).run Tryz.prog wx = .ok (.string ⟨b.toArray⟩) wx) _ _ (fun _ h => h) (hS) ?_
          clear hK K hS
          intro hS
          refine tk (i := 5) (oi := ⟨some 99, _, _, _, _, _⟩) (v := ?_) rfl (by kernel_rfl) (fun _ _ _ h => h) (by assumption) (by rfl) (fun w hSw => ?_) ?_; rotate_left; (focus (first | (go_simp; done) | (go_simp; with_reducible rfl))); simp only [Act.put, List.setIfInBounds_toArray, List.set_cons_zero, List.set_cons_succ]
          refine wpAnyH_done (by kernel_rfl) ?_ _
          clear hS hc5
          go_wp2_with fail
          go_ret2
          exact RGetPost.no' (by rw [Hfin.out]; unfold chk; rw [if_neg HE.out]) (hkw.drew.transNo hk5)
end Go.Proofs.YthbipcjgpocpaaaGreat
