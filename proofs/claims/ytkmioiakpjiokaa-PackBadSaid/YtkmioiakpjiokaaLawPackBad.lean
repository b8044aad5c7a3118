/- The walk of the law PackBad. -/
import Derived.Test.YtkmioiakpjiokaaLawOneF
namespace Go.Proofs.Ytkmioiakpjiokaa
open Go.RowKit
set_option linter.unusedSimpArgs false
set_option linter.unusedVariables false

set_option maxRecDepth 100000 in
set_option maxHeartbeats 4000000 in
theorem packBad_any (a : Option Addr) (m c : Nat) (b : List UInt8) (x : Int) (w : World) (hs : Sl w a m c (b.map byteV)) (hm : m ≤ 140737488351232) (hx : (Lit.int .u8 x).wf = true) :
    Calls Try.prog 7 #[.slice a m c, .int .u8 x] w fun e w' => e = .returned (.bool true) ∧ Keeps No w w' := by
  obtain ⟨n, rfl, hn⟩ := wf_u8_nat hx
  have hlen : b.length = m := by simpa using hs.len
  have Hlen := Lib.hid hlen
  clear hx hlen
  go_enter Try.func7, Try.ntmps7
  go_wp2_with fail
  refine (first01_any _).mono ?_
  rintro e w1 ⟨rfl, hk1⟩
  by_cases hbig : m ≤ 500
  case neg =>
    go_wp2_with fail
    go_ret
    exact ⟨rfl, hk1⟩
  go_wp2_with fail
  refine (open_any _ _ _ _ _ (hs.kept hk1) (by omega)).mono ?_
  rintro e w2 ⟨b1, sb1, rfl, hr2, hb1, hsb1, hb1', hsb1', hk2⟩
  go_wp2_with fail
  refine (open_any _ _ _ _ _ ((hs.kept hk1).kept hk2) (by omega)).mono ?_
  rintro e w3 ⟨b2, sb2, rfl, ho3, hb2, hsb2, hb2', hsb2', hk3⟩
  have hr3 := hr2.keep hk3 (not_No _) (not_No _)
  have z1 := hk1.size
  have hk03 := hk1.transNo (hk2.transNo hk3)
  have hs3 := hs.kept hk03
  go_wp2_with fail
  go_loopw [30, 7, 8] (fun i _ _ wr => ∃ j : Nat, j ≤ m ∧ i = .int .i64 j ∧ Rd wr b1 sb1 (b.drop j) false ∧ Keeps (fun k => k = b1) w3 wr) (fun i _ _ _ => m - (intOf i).toNat)
  case atStart => exact ⟨0, Nat.zero_le _, rfl, hr3, Keeps.refl _ _⟩
  case round =>
    obtain ⟨j, hj, rfl, hrd, hkr⟩ := hrel
    by_cases hlt : j < m
    · have hjb : j < b.length := by rw [Hlen.out]; exact hlt
      have hd : b.drop j = b[j] :: b.drop (j + 1) := List.drop_eq_getElem_cons hjb
      rw [hd] at hrd
      clear hd
      go_wp2_with fail
      refine (byte_some b1 sb1 _ _ _ hrd).mono ?_
      rintro e w4 ⟨rfl, hr4, hk4⟩
      go_wp2_with fail
      go_roundw
      case rel => exact ⟨j + 1, by omega, by go_num, hr4, hkr.same hk4⟩
      case measure => simp [intOf]; omega
    · obtain rfl : m = j := by omega
      rw [List.drop_of_length_le (by rw [Hlen.out]; exact Nat.le_refl _)] at hrd
      go_wp2_with fail
      refine (done_any b1 sb1 (some []) _ hrd).mono ?_
      rintro e w4 ⟨rfl, rfl⟩
      go_wp2_with fail
      refine (byte_none b1 sb1 [] false _ hrd (.inr rfl)).mono ?_
      rintro e w5 ⟨rfl, hr5, hk5⟩
      have hk35 := hkr.same hk5
      go_wp2_with fail
      go_loopw [50, 11, 12, 13, 14, 15, 16] (fun i _ _ _ _ _ _ wi => ∃ j : Nat, j ≤ n % 9 ∧ i = .int .u8 (j : Int) ∧ Rds wi b1 sb1 none ∧ Keeps (fun k => k = b1) w3 wi) (fun i _ _ _ _ _ _ _ => n % 9 - (intOf i).toNat)
      case atStart => exact ⟨0, Nat.zero_le _, rfl, ⟨_, hr5⟩, hk35⟩
      case round =>
        obtain ⟨j, hj, rfl, hrd2, hkr2⟩ := hrel
        by_cases hlt2 : j < n % 9
        · go_wp2_with fail
          refine (rnatural_any b1 sb1 none _ hrd2).mono ?_
          rintro e w6 ⟨rfl, hr6, hk6⟩
          go_wp2_with fail
          refine (rtext_any b1 sb1 none _ hr6).mono ?_
          rintro e w7 ⟨rfl, hr7, hk7⟩
          go_wp2_with fail
          refine (rnumber_any b1 sb1 none _ hr7).mono ?_
          rintro e w8 ⟨rfl, hr8, hk8⟩
          go_wp2_with fail
          refine (done_any b1 sb1 none _ hr8).mono ?_
          rintro e w9 ⟨rfl, rfl⟩
          go_wp2_with fail
          go_roundw
          case rel => exact ⟨j + 1, by omega, by go_num, hr8, ((hkr2.same hk6).same hk7).same hk8⟩
          case measure => simp [intOf]; omega
        · have hoi := ho3.keep hkr2 (by omega) (by omega)
          have hsi := hs3.keep hkr2 (fun hp => by have := hs.lt hp; intro h; omega)
          have z2 := hk2.size
          have hk0r : Keeps No w _ := hk03.trans hkr2 (fun k hk h => by omega)
          cases b with
          | nil =>
            obtain rfl : m = 0 := Hlen.out.symm
            go_wp2_with fail
            refine (byte_none b2 sb2 [] false _ hoi (.inr rfl)).mono ?_
            rintro e w6 ⟨rfl, _, hk6⟩
            go_wp2_with fail
            go_ret
            exact ⟨ret_bool (by simp), hk0r.trans hk6 (fun k hk h => by omega)⟩
          | cons y t =>
            have hm0 : 0 < m := by rw [← Hlen.out]; simp
            go_wp2_with fail
            refine (byte_some b2 sb2 y t _ hoi).mono ?_
            rintro e w6 ⟨rfl, _, hk6⟩
            have hsf := hsi.keep hk6 (fun hp => by have := hs.lt hp; intro h; omega)
            have hix := hsf.ixz (P := Try.prog) Try.underlying22 (by kernel_rfl) 0 (i := 0) rfl hm0 .i64
            have hcx := hsf.at_ (i := 0) hm0
            rw [Addr.add_zero'] at hix hcx
            rw [show ((y :: t).map byteV).getD 0 undef = .int .u8 (y.toNat : Int) from rfl] at hcx
            go_wp2_with fail
            go_ret
            exact ⟨ret_bool (by simp), hk0r.trans hk6 (fun k hk h => by omega)⟩
end Go.Proofs.Ytkmioiakpjiokaa
