/- The walk of the law PackBack. -/
import Derived.Test.YtkmioiakpjiokaaLawOneF
import Derived.Test.YtkmioiakpjiokaaRowKit
namespace Go.Proofs.Ytkmioiakpjiokaa
open Go.RowKit
set_option linter.unusedSimpArgs false
set_option linter.unusedVariables false

theorem natGo_nat7 (k : Nat) : ∀ v j m r, v ≤ k → v * 2 ^ (7 * j) < 2 ^ 64 → (0 < j → 0 < v) → natGo j m (nat7 v ++ r) = some (m + v * 2 ^ (7 * j), r) := by
  induction k with
  | zero =>
    intro v j m r hv h64 h0
    obtain rfl : v = 0 := by omega
    rw [nat7_low (by decide), List.singleton_append, natGo]
    have hj : ¬ 0 < j := by intro h; have := h0 h; omega
    rw [if_neg (by intro h; rcases h with ⟨_, h⟩ | ⟨h, _⟩ <;> first | exact absurd h (by decide) | exact hj h), if_pos (by decide)]
    simp
  | succ k ih =>
    intro v j m r hv h64 h0
    by_cases hl : v < 128
    · rw [nat7_low hl, List.singleton_append, natGo]
      have hc : (UInt8.ofNat v).toNat = v := by rw [UInt8.toNat_ofNat']; omega
      have h9 : j = 9 → v < 2 := by
        intro h; subst h
        have e : (2 : Nat) ^ 64 = 2 * 2 ^ (7 * 9) := by decide
        rw [e] at h64
        exact Nat.lt_of_mul_lt_mul_right h64
      rw [hc, if_neg (by omega), if_pos hl, Nat.mod_eq_of_lt hl]
    · rw [nat7_step (by omega), List.cons_append, natGo]
      have hc : (UInt8.ofNat (128 + v % 128)).toNat = 128 + v % 128 := by rw [UInt8.toNat_ofNat']; omega
      have h9 : j ≠ 9 := by
        intro h; subst h
        have h1 : 128 * 2 ^ (7 * 9) ≤ v * 2 ^ (7 * 9) := Nat.mul_le_mul_right _ (by omega)
        have e : (2 : Nat) ^ 64 < 128 * 2 ^ (7 * 9) := by decide
        omega
      rw [hc, if_neg (by omega), if_neg (by omega)]
      have e7 : 2 ^ (7 * (j + 1)) = 128 * 2 ^ (7 * j) := by rw [show 7 * (j + 1) = 7 * j + 7 from by omega, Nat.pow_add, Nat.mul_comm]
      have hle : v / 128 * 2 ^ (7 * (j + 1)) ≤ v * 2 ^ (7 * j) := by
        rw [e7, ← Nat.mul_assoc]
        exact Nat.mul_le_mul_right _ (Nat.div_mul_le_self v 128)
      rw [ih (v / 128) (j + 1) _ r (by omega) (by omega) (by omega), e7, ← Nat.mul_assoc]
      congr 2
      rw [show (128 + v % 128) % 128 = v % 128 from by omega]
      have e1 : v * 2 ^ (7 * j) = (v % 128) * 2 ^ (7 * j) + (v / 128 * 128) * 2 ^ (7 * j) := by rw [← Nat.add_mul]; congr 1; omega
      rw [e1]; omega

theorem rdNat_nat7 (v : Nat) (r : List UInt8) (h : v < 18446744073709551616) : rdNat (some (nat7 v ++ r)) = some (v, r) := by
  have e64 : (2 : Nat) ^ 64 = 18446744073709551616 := by decide
  have := natGo_nat7 v v 0 0 r (Nat.le_refl _) (by simp; omega) (by omega)
  simpa [rdNat] using this

/-- An int as an unsigned number of 64 bits. -/
def un64 (n : Int) : Nat := (n % 18446744073709551616).toNat
theorem un64_lt (n : Int) : un64 n < 18446744073709551616 := by unfold un64; omega
theorem un64_wrap (n : Int) : IntKind.u64.wrap n = (un64 n : Int) := by rw [IntKind.wrap_u64]; unfold un64; omega

def encN (n : I64) : List UInt8 := nat7 (fold n.1) ++ nat7 (un64 n.1)
def encS (s : ByteArray) : List UInt8 := nat7 s.size ++ s.data.toList

theorem encN_len (n : I64) : (encN n).length ≤ 20 := by
  have h1 := nat7_len64 _ (fold_lt (wf_i64_iff n.2))
  have h2 := nat7_len64 _ (un64_lt n.1)
  unfold encN
  rw [List.length_append]; omega

set_option maxRecDepth 100000 in
set_option maxHeartbeats 4000000 in
theorem packBack_any (a : Option Addr) (n c : Nat) (ns : List I64) (a' : Option Addr) (n' c' : Nat) (ss : List ByteArray) (w : World) (hs : Sl w a n c (ns.map i64V)) (hn : n * 8 ≤ 140737488351232)
    (hs' : Sl w a' n' c' (ss.map Value.string)) (hn' : n' * 16 ≤ 140737488351232) :
    Calls Try.prog 6 #[.slice a n c, .slice a' n' c'] w fun e w' => e = .returned (.bool true) ∧ Keeps No w w' := by
  have hlen : ns.length = n := by simpa using hs.len
  have hlen' : ss.length = n' := by simpa using hs'.len
  have Hlen := Lib.hid hlen
  have Hlen' := Lib.hid hlen'
  clear hlen hlen'
  go_enter Try.func6, Try.ntmps6
  go_wp2_with fail
  refine (first01_any _).mono ?_
  rintro e w1 ⟨rfl, hk1⟩
  by_cases hbig : n ≤ 200
  case neg =>
    go_wp2_with fail
    go_ret
    exact ⟨rfl, hk1⟩
  by_cases hbig' : n' ≤ 200
  case neg =>
    go_wp2_with fail
    go_ret
    exact ⟨rfl, hk1⟩
  go_wp2_with fail
  go_loopw [33, 5, 7] (fun i v _ wr => ∃ (j k cc : Nat) (av : Option Addr), j ≤ n ∧ k ≤ 20 * j ∧ i = .int .i64 j ∧ v = .slice av k cc ∧ Sl wr av k cc (((ns.take j).flatMap encN).map byteV) ∧ Keeps No w wr) (fun i _ _ _ => n - (intOf i).toNat)
  case atStart => exact ⟨0, 0, 0, none, by omega, by omega, rfl, rfl, by simpa using Sl.none w1, hk1⟩
  case round =>
    obtain ⟨j, k, cc, av, hj, hk, rfl, rfl, hv, hkr⟩ := hrel
    by_cases hlt : j < n
    · have hjn : j < ns.length := by rw [Hlen.out]; exact hlt
      have hix := hs.ix (P := Try.prog) Try.underlying46 (by kernel_rfl) hlt .i64
      have hc := (hs.kept hkr).at_ hlt
      obtain ⟨x, hx⟩ : ∃ x, x = ns[j] := ⟨_, rfl⟩
      have hb : (ns.map i64V).getD j undef = .int .i64 x.1 := by rw [hx]; simp [hjn, i64V]
      rw [hb] at hc
      have hwr := un64_wrap x.1
      have hl1 := nat7_len64 _ (fold_lt (wf_i64_iff x.2))
      have hl2 := nat7_len64 _ (un64_lt x.1)
      have htk : (ns.take (j + 1)).flatMap encN = (ns.take j).flatMap encN ++ nat7 (fold x.1) ++ nat7 (un64 x.1) := by
        rw [List.take_succ_eq_append_getElem hjn, List.flatMap_append, ← hx]; simp [encN]
      have Htk := Lib.hid htk
      clear hx hb htk
      go_wp2_with fail
      refine (number_any _ _ _ _ _ _ hv (by omega) x.2).mono ?_
      rintro e w2 ⟨v2, rfl, hown2, hk2⟩
      obtain ⟨a2, c2, rfl, hs2, _⟩ := Sl.ofOwn hown2
      clear hown2
      go_wp2_with fail
      refine (natural_any _ _ _ _ _ _ hs2 (by omega) (un64_lt _)).mono ?_
      rintro e w3 ⟨v3, rfl, hown3, hk3⟩
      obtain ⟨a3, c3, rfl, hs3, _⟩ := Sl.ofOwn hown3
      clear hown3
      go_wp2_with fail
      go_roundw
      case rel => exact ⟨j + 1, _, c3, a3, by omega, by omega, by go_num, rfl, by rw [Htk.out]; exact hs3, hkr.transNo (hk2.transNo hk3)⟩
      case measure => simp [intOf]; omega
    · obtain rfl : n = j := by omega
      rw [List.take_of_length_le (by rw [Hlen.out]; exact Nat.le_refl _)] at hv
      obtain ⟨w2, hw2⟩ : ∃ w2, w2 = wr := ⟨_, rfl⟩
      subst hw2
      go_wp2_with fail
      go_loopw [47, 5, 9] (fun i v _ wr => ∃ (j k cc : Nat) (av : Option Addr), j ≤ n' ∧ k ≤ 4000 + 210 * j ∧ i = .int .i64 j ∧ v = .slice av k cc ∧ Sl wr av k cc ((ns.flatMap encN ++ (ss.take j).flatMap encS).map byteV) ∧ (∀ s ∈ ss.take j, s.size ≤ 200) ∧ Keeps No w wr) (fun i _ _ _ => n' - (intOf i).toNat)
      case atStart => exact ⟨0, k, cc, av, by omega, by omega, rfl, rfl, by simpa using hv, by simp, hkr⟩
      case round =>
        clear hv hkr
        obtain ⟨j, k, cc, av, hj, hk, rfl, rfl, hv, hall, hkr⟩ := hrel
        have Hall := Lib.hid hall
        clear hall
        by_cases hlt' : j < n'
        · have hjn : j < ss.length := by rw [Hlen'.out]; exact hlt'
          have hix := hs'.ix (P := Try.prog) Try.underlying47 (by kernel_rfl) hlt' .i64
          have hc := (hs'.kept hkr).at_ hlt'
          obtain ⟨x, hx⟩ : ∃ x, x = ss[j] := ⟨_, rfl⟩
          have hb : (ss.map Value.string).getD j undef = .string x := by rw [hx]; simp [hjn]
          rw [hb] at hc
          have htk : ns.flatMap encN ++ (ss.take (j + 1)).flatMap encS = ns.flatMap encN ++ (ss.take j).flatMap encS ++ nat7 x.size ++ x.data.toList := by
            rw [List.take_succ_eq_append_getElem hjn, List.flatMap_append, ← hx]; simp [encS]
          have hta : x.size ≤ 200 → ∀ s ∈ ss.take (j + 1), s.size ≤ 200 := by
            intro h s hs
            rw [List.take_succ_eq_append_getElem hjn, ← hx, List.mem_append, List.mem_singleton] at hs
            rcases hs with hs | rfl
            · exact Hall.out s hs
            · exact h
          have Hta := Lib.hid hta
          have Htk := Lib.hid htk
          clear hx hb htk hta
          by_cases hx200 : x.size ≤ 200
          · have hl1 := nat7_len64 x.size (by omega)
            go_wp2_with fail
            refine (text_any _ _ _ _ _ _ hv (by omega)).mono ?_
            rintro e w2 ⟨v2, rfl, hown2, hk2⟩
            obtain ⟨a2, c2, rfl, hs2, _⟩ := Sl.ofOwn hown2
            clear hown2
            go_wp2_with fail
            go_roundw
            case rel => exact ⟨j + 1, _, c2, a2, by omega, by omega, by go_num, rfl, by rw [Htk.out]; exact hs2, Hta.out hx200, hkr.transNo hk2⟩
            case measure => simp [intOf]; omega
          · go_wp2_with fail
            go_ret
            exact ⟨rfl, hkr⟩
        · obtain rfl : n' = j := by omega
          rw [List.take_of_length_le (by rw [Hlen'.out]; exact Nat.le_refl _)] at hv
          rw [List.take_of_length_le (by rw [Hlen'.out]; exact Nat.le_refl _)] at Hall
          go_wp2_with fail
          refine (open_any _ _ _ _ _ hv (by omega)).mono ?_
          rintro e w3 ⟨b, sb, rfl, hr3, hb1, hb2, hb3, hb4, hk3⟩
          have hk03 := hkr.transNo hk3
          have z0 := hkr.size
          have hs3 := hs.kept hk03
          have hs3' := hs'.kept hk03
          have hbs : ∀ {ad : Option Addr}, (ad.getD default).block < w.heap.size → ¬ (ad.getD default).block = b := fun h h2 => by omega
          clear hv
          go_wp2_with fail
          go_loopw [62, 12, 13, 14, 15, 16] (fun i _ _ _ _ _ wr => ∃ (j : Nat), j ≤ n ∧ i = .int .i64 j ∧ Rd wr b sb ((ns.drop j).flatMap encN ++ ss.flatMap encS) false ∧ Keeps (fun k => k = b) w3 wr) (fun i _ _ _ _ _ _ => n - (intOf i).toNat)
          case atStart => exact ⟨0, by omega, rfl, by simpa using hr3, Keeps.refl _ _⟩
          case round =>
            obtain ⟨j, hj, rfl, hrd, hkj⟩ := hrel
            by_cases hlt : j < n
            · have hjn : j < ns.length := by rw [Hlen.out]; exact hlt
              have hsj := hs3.keep hkj (fun hp => hbs (hs.lt hp))
              have hix := hsj.ix (P := Try.prog) Try.underlying46 (by kernel_rfl) hlt .i64
              have hc := hsj.at_ hlt
              obtain ⟨x, hx⟩ : ∃ x, x = ns[j] := ⟨_, rfl⟩
              have hbx : (ns.map i64V).getD j undef = .int .i64 x.1 := by rw [hx]; simp [hjn, i64V]
              rw [hbx] at hc
              have hwr := un64_wrap x.1
              obtain ⟨R, hR⟩ : ∃ R, R = (ns.drop (j + 1)).flatMap encN ++ ss.flatMap encS := ⟨_, rfl⟩
              have hdr : (ns.drop j).flatMap encN ++ ss.flatMap encS = nat7 (fold x.1) ++ (nat7 (un64 x.1) ++ R) := by
                rw [List.drop_eq_getElem_cons hjn, ← hx, List.flatMap_cons, hR]; simp [encN]
              rw [hdr] at hrd
              have hrd1 := rdNat_nat7 (fold x.1) (nat7 (un64 x.1) ++ R) (fold_lt (wf_i64_iff x.2))
              have hrd2 := rdNat_nat7 (un64 x.1) R (un64_lt x.1)
              have HR := Lib.hid hR
              have Hrd1 := Lib.hid hrd1
              have Hrd2 := Lib.hid hrd2
              clear hx hbx hdr hrd1 hrd2 hR
              go_wp2_with fail
              refine (rnumber_any b sb (some _) _ hrd).mono ?_
              rw [Hrd1.out]
              rintro e w4 ⟨rfl, hr4, hk4⟩
              rw [unfold_fold]
              go_wp2_with fail
              refine (rnatural_any b sb (some _) _ hr4).mono ?_
              rw [Hrd2.out]
              rintro e w5 ⟨rfl, hr5, hk5⟩
              go_wp2_with fail
              go_roundw
              case rel => exact ⟨j + 1, by omega, by go_num, by rw [← HR.out]; exact hr5, (hkj.same hk4).same hk5⟩
              case measure => simp [intOf]; omega
            · obtain rfl : n = j := by omega
              rw [List.drop_of_length_le (by rw [Hlen.out]; exact Nat.le_refl _)] at hrd
              obtain ⟨w4, hw4⟩ : ∃ w4, w4 = wr := ⟨_, rfl⟩
              subst hw4
              go_wp2_with fail
              go_loopw [96, 18, 19, 20] (fun i _ _ _ wr => ∃ (j : Nat), j ≤ n' ∧ i = .int .i64 j ∧ Rd wr b sb ((ss.drop j).flatMap encS) false ∧ Keeps (fun k => k = b) w3 wr) (fun i _ _ _ _ => n' - (intOf i).toNat)
              case atStart => exact ⟨0, by omega, rfl, by simpa using hrd, hkj⟩
              case round =>
                clear hrd hkj
                obtain ⟨j, hj, rfl, hrd, hkj⟩ := hrel
                by_cases hlt : j < n'
                · have hjn : j < ss.length := by rw [Hlen'.out]; exact hlt
                  have hsj := hs3'.keep hkj (fun hp => hbs (hs'.lt hp))
                  have hix := hsj.ix (P := Try.prog) Try.underlying47 (by kernel_rfl) hlt .i64
                  have hc := hsj.at_ hlt
                  obtain ⟨x, hx⟩ : ∃ x, x = ss[j] := ⟨_, rfl⟩
                  have hbx : (ss.map Value.string).getD j undef = .string x := by rw [hx]; simp [hjn]
                  rw [hbx] at hc
                  have hx200 : x.size ≤ 200 := Hall.out x (by rw [hx]; exact List.getElem_mem hjn)
                  obtain ⟨R, hR⟩ : ∃ R, R = (ss.drop (j + 1)).flatMap encS := ⟨_, rfl⟩
                  have hdr : (ss.drop j).flatMap encS = nat7 x.size ++ (x.data.toList ++ R) := by
                    rw [List.drop_eq_getElem_cons hjn, ← hx, List.flatMap_cons, hR]; simp [encS]
                  rw [hdr] at hrd
                  have hrd1 := rdNat_nat7 x.size (x.data.toList ++ R) (by omega)
                  have hsz : x.data.toList.length = x.size := Array.length_toList
                  have htk : (x.data.toList ++ R).take x.size = x.data.toList := by rw [← hsz, List.take_left]
                  have hdp : (x.data.toList ++ R).drop x.size = R := by rw [← hsz, List.drop_left]
                  have hle : x.size ≤ (x.data.toList ++ R).length := by rw [List.length_append, hsz]; omega
                  have HR := Lib.hid hR
                  have Hrd1 := Lib.hid hrd1
                  have Htk := Lib.hid htk
                  have Hdp := Lib.hid hdp
                  have Hle := Lib.hid hle
                  clear hx hbx hdr hrd1 hR hsz htk hdp hle
                  go_wp2_with fail
                  refine (rtext_any b sb (some _) _ hrd).mono ?_
                  rw [Hrd1.out]
                  intro e w5 h5
                  have h6 := h5.ok Hle.out
                  rw [Htk.out, Hdp.out, show (⟨x.data.toList.toArray⟩ : ByteArray) = x from by cases x; rfl] at h6
                  obtain ⟨rfl, hr5, hk5⟩ := h6
                  clear h5
                  go_wp2_with fail
                  go_roundw
                  case rel => exact ⟨j + 1, by omega, by go_num, by rw [← HR.out]; exact hr5, hkj.same hk5⟩
                  case measure => simp [intOf]; omega
                · obtain rfl : n' = j := by omega
                  rw [List.drop_of_length_le (by rw [Hlen'.out]; exact Nat.le_refl _)] at hrd
                  go_wp2_with fail
                  refine (done_any b sb (some []) _ hrd).mono ?_
                  rintro e w5 ⟨rfl, rfl⟩
                  go_wp2_with fail
                  go_ret
                  exact ⟨ret_bool (by simp), hk03.trans hkj (fun k hk h => by omega)⟩
end Go.Proofs.Ytkmioiakpjiokaa
