/- The walk of RootCounts. -/
import Derived.Test.YthimnkmoeonheaaDoorLawEightF
import Derived.Lib.ConvBytes
import Derived.Deep.DeepCutAuto
import Derived.Deep.CutRange
import Derived.Deep.CutBlock
namespace Go.Proofs.YthimnkmoeonheaaDoor
open Go.RowKit
set_option linter.unusedSimpArgs false
set_option linter.unusedVariables false
set_option maxRecDepth 100000

/-- '[]byte(s)' of a string. -/
theorem convS (w : World) (b : List UInt8) (hb : b.length ≤ maxLen) : ∃ c w', (convert 9 35 (.string ⟨b.toArray⟩)).run Tryd.prog w = .ok (.slice (some ⟨w.heap.size, 0, none⟩) b.length c) w' ∧ Keeps No w w' ∧ w.heap.size < w'.heap.size ∧ Sl w' (some ⟨w.heap.size, 0, none⟩) b.length c (b.map byteV) := by
  have hsz : (⟨b.toArray⟩ : ByteArray).size = b.length := by simp [ByteArray.size]
  have h := Lib.run_convert_string_bytes (P := Tryd.prog) w 9 35 5 ⟨b.toArray⟩ Tryd.underlying9 Tryd.underlying35 Tryd.underlying5
  rw [hsz] at h
  have hs := Lib.bytesWorld_size w 5 ⟨b.toArray⟩
  refine ⟨_, _, h, ⟨rfl, rfl, rfl, by omega, fun k hk _ => Lib.bytesWorld_at_old w _ _ k hk⟩, by omega, ⟨by simp, grownCap_ge _ _ _ _, grownCap_le_maxLen _ _ _ _ hb, fun h => (by cases h), fun i hi => ?_⟩⟩
  have := Lib.bytesWorld_cell w 5 ⟨b.toArray⟩ i (by omega)
  simp only [Option.getD_some, Addr.add_lit, Nat.zero_add]
  rw [this]
  simp [byteV, hi]

def CntRel (w : World) (bd bv bc k : Nat) (vn vnow : Value) (wx : World) : Prop :=
  ∃ (m : Nat) (L : List UInt8) (F : Nat → Prop) (s : RS), vn = .int .i64 (m : Int) ∧ vnow = .string ⟨L.toArray⟩ ∧ RT wx bd bv bc F s [] ∧ s.ver = m ∧ m ≤ k ∧ s.mark ≤ s.A.length ∧ s.A.length ≤ k ∧ s.D.W.length ≤ 1 ∧ s.D.K.length = 3 ∧ Good8 s L ∧ Safe8 s ∧ (∀ i, FC F bc i → w.heap.size ≤ i) ∧ Keeps No w wx

set_option maxHeartbeats 8000000 in
theorem rootCounts_any (a0 : Option Addr) (n0 c0 : Nat) (L0 : List UInt8) (a1 : Option Addr) (n1 c1 : Nat) (L1 : List Bool) (w : World) (hs0 : Sl w a0 n0 c0 (L0.map byteV)) (hs1 : Sl w a1 n1 c1 (L1.map Value.bool)) :
    Calls Tryd.prog 7 #[.slice a0 n0 c0, .slice a1 n1 c1] w fun e w' => e = .returned (.bool true) ∧ Keeps No w w' := by
  have hlen : L0.length = n0 := by simpa using hs0.len
  have Hlen := Lib.hid hlen
  have hwm := hs0.max
  have hwl := hs0.le
  unfold maxLen at hwm
  clear hlen
  go_enter Tryd.func7, Tryd.ntmps7
  go_wp2_with fail
  refine (first08_any _).mono ?_
  rintro e w1 ⟨rfl, hk1⟩
  by_cases h60 : 60 < n1
  · have n1 : decide ((60 : Int) < (n1 : Int)) = true := by simp; omega
    go_wp2_with fail
    go_ret
    exact ⟨rfl, hk1⟩
  have d60 : decide ((60 : Int) < (n1 : Int)) = false := by simp; omega
  go_wp2_with fail
  refine (d_new 3 w1 (by omega) (by omega)).mono ?_
  rintro e w2 ⟨bd, Fd, rfl, hd2, hF, hk2⟩
  go_wp2_with fail
  refine (f_new w2).mono ?_
  rintro e w3 ⟨bv, Fv, rfl, hv3, hF3, hk3⟩
  obtain ⟨F, hT, hFw⟩ := rtnew 3 w1 bd bv Fd Fv w2 w3 _ hd2 hF hv3 hF3 hk2 hk3
  have hkC : Keeps No w3 (w3.alloc (.cells #[.int .i64 0, .int .i64 0] 55)) := (Keeps.refl No w3).alloc _
  have hk04 := ((hk1.transNo hk2).transNo hk3).transNo hkC
  have hz1 := hk1.size
  clear hd2 hF hv3 hF3 hk2 hk3 hkC
  go_wp2_with fail
  generalize (w3.alloc (.cells #[.int .i64 0, .int .i64 0] 55)) = w4 at hT hk04 ⊢
  generalize w3.heap.size = bc at hT hFw ⊢
  have hR4 : CntRel w bd bv bc 0 (.int .i64 0) (.string ⟨#[]⟩) w4 := ⟨0, [], F, _, rfl, rfl, hT, rfl, Nat.le_refl _, Nat.le_refl _, Nat.le_refl _, Nat.zero_le _, rfl, good0 _ _, fun h => absurd rfl h, fun i hi => Nat.le_trans hz1 (hFw i hi), hk04⟩
  clear hT hFw hk04 hz1
  go_loopg [30, 9, 10] n0 (fun q i vn vnow wr => ∃ k : Nat, k ≤ n0 ∧ q = n0 - k ∧ i = .int .i64 (k : Int) ∧ CntRel w bd bv bc k vn vnow wr)
  case atStart => exact ⟨0, Nat.zero_le _, rfl, rfl, hR4⟩
  case round =>
    clear hR4
    obtain ⟨k, hk, hq, rfl, m, L, F, s, rfl, rfl, hT, hvm, hmk, hma, hAk, hW, hK3, hG, hS, hFw, hkr⟩ := hrel
    have Hq := Lib.hid hq
    clear hq
    by_cases hlt : k < n0
    case neg =>
      go_wp2_with fail
      go_ret
      exact ⟨rfl, hkr⟩
    have hkL : k < L0.length := by rw [Hlen.out]; exact hlt
    have hix := hs0.ix (P := Tryd.prog) Tryd.underlying35 (by kernel_rfl) hlt .i64
    have hcm := (hs0.kept hkr).at_ hlt
    obtain ⟨x, hx⟩ : ∃ x, x = L0[k] := ⟨_, rfl⟩
    have hbv : (L0.map byteV).getD k undef = .int .u8 (x.toNat : Int) := by rw [hx]; simp [hkL, byteV]
    rw [hbv] at hcm
    clear hx hbv
    by_cases h40 : 40 ≤ k
    · have d40 : decide ((40 : Int) ≤ (k : Int)) = true := by simp; omega
      go_wp2_with fail
      go_ret
      exact ⟨rfl, hkr⟩
    have d40 : decide ((40 : Int) ≤ (k : Int)) = false := by simp; omega
    have hx5 := x.toNat_lt
    obtain ⟨t, ht⟩ : ∃ t, t = x.toNat % 5 := ⟨_, rfl⟩
    have ht1 : (x.toNat : Int) % 5 = (t : Int) := by omega
    have ht2 : (x.toNat : Int).tmod 5 = (t : Int) := by rw [Int.tmod_eq_emod_of_nonneg (by omega)]; exact ht1
    have hcall := rt_limit bd bv bc F s [] wr (t : Int) hT (by omega)
    clear ht
    go_wp2_with fail
    refine hcall.mono ?_
    rintro e w5 ⟨rfl, F5, hT5, hs5⟩
    clear hcall
    have hz0 := hkr.size
    have hF5 : ∀ i, FC F5 bc i → w.heap.size ≤ i := fun i hi => (hs5.fresh i hi).elim (hFw i) (fun h => by omega)
    have hk5 : Keeps No w w5 := hkr.trans hs5.keeps (fun i hi h => absurd (hFw i h) (by omega))
    have hz5 := hk5.size
    have hG5 : Good8 ⟨s.D.limit t, s.A, s.ver, s.mark⟩ L := hG
    have hS5 : Safe8 ⟨s.D.limit t, s.A, s.ver, s.mark⟩ := safe_limit s t hS
    have hlB := Sl.litK w5 #[.int .u8 (k : Int), .int .u8 (x.toNat : Int)] 5 (0, 0) [UInt8.ofNat k, x] (by simp [byteV]; omega) 2 rfl (by decide)
    have hkB : Keeps No w5 (w5.alloc (.cells #[.int .u8 (k : Int), .int .u8 (x.toNat : Int)] 5)) := (Keeps.refl No _).alloc _
    have hstr := strB hlB
    obtain ⟨c6, w6, hcv, hk6, hz6, hs6⟩ := convS (w5.alloc (.cells #[.int .u8 (k : Int), .int .u8 (x.toNat : Int)] 5)) [UInt8.ofNat k, x] (by simp [maxLen])
    rw [show (w5.alloc (.cells #[.int .u8 (k : Int), .int .u8 (x.toNat : Int)] 5)).heap.size = w5.heap.size + 1 from by simp] at hcv hs6 hz6
    have hk56 := hkB.transNo hk6
    generalize hpl : [UInt8.ofNat k, x] = pl at hcv hs6 hstr hlB
    have hpll : pl.length = 2 := by rw [← hpl]; rfl
    rw [hpll] at hcv hs6
    have hcall := rput_any bd bv bc F5 ⟨s.D.limit t, s.A, s.ver, s.mark⟩ [] _ 2 c6 pl w6 (hT5.kept hk56) (by show s.A.length ≤ _; omega) (by show s.D.W.length ≤ _; omega) (by show s.ver ≤ _; omega) hs6 (by omega)
    obtain ⟨hRA, hRc⟩ := rput_inv ⟨s.D.limit t, s.A, s.ver, s.mark⟩ L pl (by show 2 ≤ s.D.K.length; omega) (by omega) hG5
    obtain ⟨hRK, hRW, _⟩ := rput_len ⟨s.D.limit t, s.A, s.ver, s.mark⟩ [] pl
    unfold RPutPost at hcall
    generalize rput ⟨s.D.limit t, s.A, s.ver, s.mark⟩ [] pl = R at hcall hRA hRc hRK hRW
    change R.1.D.K.length = s.D.K.length at hRK
    simp only at hRA hRc
    clear hpl hG hS hT
    have hstr' := hstr
    go_wp2_with fail
    refine hcall.mono ?_
    rintro e w7 ⟨rfl, F7, hT7, hs7⟩
    clear hcall
    have hk06 := hk5.transNo hk56
    have hk7 : Keeps No w w7 := hk06.trans hs7.keeps (fun i hi h => absurd (hF5 i h) (by omega))
    have hF7 : ∀ i, FC F7 bc i → w.heap.size ≤ i := fun i hi => (hs7.fresh i hi).elim (hF5 i) (fun h => by have := hk06.size; omega)
    have hAl : R.1.A.length = s.A.length + 1 := by rw [hRA]; simp
    have hRW' : R.1.D.W.length ≤ s.D.W.length + 1 := hRW
    clear hRA hRW hs5 hs7 hT5 hlB hstr' hkB hk6 hs6 hcv
    go_upto_if 53 with fail
    go_cut [9, 10] (fun vn vnow wx => wx = w7 ∧ ∃ (m' : Nat) (L' : List UInt8), vn = .int .i64 (m' : Int) ∧ vnow = .string ⟨L'.toArray⟩ ∧ R.1.ver = m' ∧ m' ≤ k + 1 ∧ R.1.mark ≤ R.1.A.length ∧ Good8 R.1 L' ∧ Safe8 R.1)
    case first =>
      rcases hRc with ⟨h1, h2, h3, h4, h5⟩ | ⟨h1, h2, h3, h4, h5⟩
      · have n1 : (R.2 == 0) = true := by rw [beq_iff_eq]; exact h1
        go_wp2_with fail
        go_meet
        exact ⟨rfl, m + 1, pl, by go_num, rfl, by omega, by omega, by omega, h3, h4⟩
      · have n1 : (R.2 == 0) = false := by rw [beq_eq_false_iff_ne]; omega
        go_wp2_with fail
        go_meet
        exact ⟨rfl, m, L, rfl, rfl, by omega, by omega, by omega, h4, h5 hS5⟩
    case rest =>
      clear hRc hG5 hS5 hvm hmk hma
      obtain ⟨hwx, m', L', rfl, rfl, hvm, hmk, hma, hG, hS⟩ := hcut
      replace hwx := hwx.symm
      subst hwx
      have hin : 0 < n1 → ¬ FC F7 bc (a1.getD default).block := fun h0 h => by have := hs1.lt h0; have := hF7 _ h; omega
      have hcall := rt_crash bd bv bc F7 R.1 [] w7 a1 n1 c1 L1 hT7 (hs1.kept hk7) hin
      have hSc := safe_crash R.1 L1 hS
      have hKc := (crash_len7 R.1.D L1).1
      go_wp2_with fail
      refine hcall.mono ?_
      rintro e w8 ⟨rfl, F8, hT8, hs8⟩
      clear hcall
      have hk8 : Keeps No w w8 := hk7.trans hs8.keeps (fun i hi h => absurd (hF7 i h) (by omega))
      have hF8 : ∀ i, FC F8 bc i → w.heap.size ≤ i := fun i hi => (hs8.fresh i hi).elim (hF7 i) (fun h => by have := hk7.size; omega)
      obtain ⟨S, hSd⟩ : ∃ S, S = (⟨R.1.D.crash L1, R.1.A, R.1.ver, R.1.mark⟩ : RS) := ⟨_, rfl⟩
      have hGS : Good8 S L' := by rw [hSd]; exact hG
      have q1 : S.ver = m' := by rw [hSd]; exact hvm
      have q2 : S.mark ≤ S.A.length := by rw [hSd]; exact hma
      have q3 : S.A.length ≤ k + 1 := by rw [hSd]; show R.1.A.length ≤ _; omega
      have q4 : S.D.K.length = 3 := by rw [hSd]; show (R.1.D.crash L1).K.length = 3; omega
      have q5 : S.D.W.length ≤ 1 := by rw [hSd]; simp [DS.crash]
      have q6 : S.D.lim ≠ some 0 := by rw [hSd]; simp [DS.crash]
      rw [← hSd] at hT8 hSc
      clear hSd hG hS hvm hma hT7 hs8 hRW' hAl hRK hKc
      have hcall := rget_any bd bv bc F8 S [] w8 hT8 (by omega) (by omega) (by omega)
      by_cases hm0 : m' = 0
      · rw [rget_zero S [] (by omega)] at hcall
        subst hm0
        go_wp2_with fail
        refine hcall.mono ?_
        rintro e w9 ⟨v9, rfl, hk9, hown9⟩
        clear hcall
        obtain ⟨a9, c9, rfl, hs9, _⟩ := Sl.ofOwn hown9
        have hT9 := hT8.kept hk9
        have hver := rversion_any bc _ _ w9 hT9.2.1
        rw [q1] at hver
        go_wp2_with fail
        refine hver.mono ?_
        rintro e wa ⟨rfl, rfl⟩
        go_wp2_with fail
        go_roundg (n0 - (k + 1))
        case measure => have := Hq.out; omega
        case rel => exact ⟨k + 1, by omega, rfl, by go_num, 0, L', F8, S, rfl, rfl, hT9, q1, hmk, q2, q3, q5, q4, hGS, hSc, hF8, hk8.transNo hk9⟩
      · rw [rget_safe S L' hGS hSc (by omega) (by omega) q6 (by omega)] at hcall
        have d1 : ((m' : Int) == 0) = false := by rw [beq_eq_false_iff_ne]; omega
        have d2 : decide (0 < (m' : Int)) = true := by simp; omega
        have d3 : 0 < m' := by omega
        go_wp2_with fail
        refine hcall.mono ?_
        rintro e w9 ⟨v9, rfl, hk9, hown9⟩
        clear hcall
        obtain ⟨a9, c9, rfl, hs9, _⟩ := Sl.ofOwn hown9
        have hT9 := hT8.kept hk9
        have hver := rversion_any bc _ _ w9 hT9.2.1
        rw [q1] at hver
        have hst9 := strB hs9
        go_wp2_with fail
        refine hver.mono ?_
        rintro e wa ⟨rfl, rfl⟩
        go_wp2_with fail
        go_roundg (n0 - (k + 1))
        case measure => have := Hq.out; omega
        case rel => exact ⟨k + 1, by omega, rfl, by go_num, m', L', F8, S, rfl, rfl, hT9, q1, hmk, q2, q3, q5, q4, hGS, hSc, hF8, hk8.transNo hk9⟩
theorem rootCounts_walk (a0 : Option Addr) (n0 c0 : Nat) (L0 : List UInt8) (a1 : Option Addr) (n1 c1 : Nat) (L1 : List Bool) (w : World) (hs0 : Sl w a0 n0 c0 (L0.map byteV)) (_ : n0 ≤ reachBytes) (hs1 : Sl w a1 n1 c1 (L1.map Value.bool)) (_ : n1 ≤ reachBytes) :
    Calls Tryd.prog 7 #[.slice a0 n0 c0, .slice a1 n1 c1] w fun e w' => e = .returned (.bool true) ∧ Keeps No w w' := rootCounts_any a0 n0 c0 L0 a1 n1 c1 L1 w hs0 hs1
end Go.Proofs.YthimnkmoeonheaaDoor
