/- What must be answered ahead of everything else (layer 10). -/
import Derived.Test.YtghhfifjjhejeaaPlainTen
namespace Go.Proofs.Ytghhfifjjhejeaa
set_option linter.unusedSimpArgs false
set_option linter.unusedVariables false
open Go.RowKit

theorem first10_any (w : World) :
    Calls Try.prog 9 #[] w fun e w' => e = .returned (.bool true) ∧ Keeps No w w' := by
  go_enter Try.func9, Try.ntmps9
  go_wp2_with fail
  refine (get_any _ 1 1 [5] 3 _ (Sl.lit w #[.int .u8 5] 5 _ rfl 1 rfl (by decide)) (by decide) (by decide)).mono ?_
  rw [show getBits [5] 3 = some [true, false, true] from by decide]
  rintro e w1 ⟨v1, rfl, hown1, hk1⟩
  obtain ⟨a1, c1, rfl, hs1, _⟩ := Sl.ofOwn (k := 3) hown1
  clear hown1
  go_wp2_with fail
  refine (get_any _ 1 1 [5] 2 _ (Sl.lit w1 #[.int .u8 5] 5 _ rfl 1 rfl (by decide)) (by decide) (by decide)).mono ?_
  rw [show getBits [5] 2 = none from by decide]
  rintro e w2 ⟨rfl, hk2⟩
  go_wp2_with fail
  refine (put_any _ 3 3 [true, false, true] _ (Sl.lit w2 #[.bool true, .bool false, .bool true] 4 _ rfl 3 rfl (by decide)) (by decide)).mono ?_
  rw [show putTo [true, false, true] 3 = [5] from by decide]
  rintro e w3 ⟨v3, rfl, hown3, hk3⟩
  obtain ⟨a3, c3, rfl, hs3, _⟩ := Sl.ofOwn (k := 1) hown3
  have hstr := hs3.str (P := Try.prog) 24 9 5 Try.underlying24 Try.underlying5 Try.underlying9
  clear hown3
  go_wp2_with fail
  refine (refSame_any _ 3 _ [true, false, true] _ 3 3 [true, false, true] _ (((hs1.kept hk2.ofAlloc).kept hk3.ofAlloc).kept ((Keeps.refl _ _).alloc _)) (Sl.lit w3 #[.bool true, .bool false, .bool true] 4 _ rfl 3 rfl (by decide)) (by decide) (by decide)).mono ?_
  rintro e w4 ⟨rfl, hk4⟩
  go_wp2_with fail
  refine (count_any _ 2 2 [5, 255] _ (Sl.lit w4 #[.int .u8 5, .int .u8 255] 5 _ rfl 2 rfl (by decide)) (by decide)).mono ?_
  rintro e w5 ⟨rfl, rfl⟩
  go_wp2_with fail
  go_ret
  exact ⟨ret_bool (by decide), hk1.ofAlloc.transNo (hk2.ofAlloc.transNo (hk3.ofAlloc.transNo (hk4.ofAlloc.transNo ((Keeps.refl _ _).alloc _))))⟩

set_option maxHeartbeats 1000000 in
theorem bitmapPuts_any (a : Option Addr) (n c : Nat) (l : List Bool) (w : World) (hs : Sl w a n c (l.map Value.bool)) (hn : n ≤ 140737488351232) :
    Calls Try.prog 3 #[.slice a n c] w fun e w' => e = .returned (.bool true) ∧ Keeps No w w' := by
  have hlen : l.length = n := by simpa using hs.len
  go_enter Try.func3, Try.ntmps3
  go_wp2_with fail
  refine (first10_any _).mono ?_
  rintro e w1 ⟨rfl, hk1⟩
  by_cases hbig : n ≤ 2000
  case neg =>
    go_wp2_with fail
    go_ret
    exact ⟨rfl, hk1⟩
  go_wp2_with fail
  refine (put_any a n c l _ (hs.kept hk1) hn).mono ?_
  rintro e w2 ⟨v2, rfl, hown2, hk2⟩
  rw [putTo_length, hlen] at hown2
  obtain ⟨a2, c2, rfl, hs2, _⟩ := Sl.ofOwn hown2
  clear hown2
  have hk12 := hk1.transNo hk2
  have hcnt : (l.count true) ≤ n := by rw [← hlen]; exact List.count_le_length
  go_wp2_with fail
  go_loop [18, 4] (fun i k => ∃ j : Nat, j ≤ n ∧ i = .int .i64 j ∧ k = .int .i64 ((l.take j).count true : Nat)) (fun i _ => n - (intOf i).toNat)
  case atStart => exact ⟨0, Nat.zero_le _, rfl, rfl⟩
  case round =>
    obtain ⟨j, hj, rfl, rfl⟩ := hrel
    have hcj : (l.take j).count true ≤ j := Nat.le_trans List.count_le_length (by simp; omega)
    by_cases hlt : j < n
    · have hjl : j < l.length := by omega
      have hix := hs.ix (P := Try.prog) Try.underlying22 (by kernel_rfl) hlt .i64
      have hc := (hs.kept hk12).at_ hlt
      obtain ⟨t, ht⟩ : ∃ t, t = l[j] := ⟨_, rfl⟩
      have hb : (l.map Value.bool).getD j undef = .bool t := by rw [ht]; simp [hjl]
      rw [hb] at hc
      have hsum : (l.take (j + 1)).count true = (l.take j).count true + if t then 1 else 0 := by
        rw [List.take_succ_eq_append_getElem hjl, List.count_append, ← ht]
        cases t <;> simp
      obtain ⟨q, hq⟩ : ∃ q, q = (l.take j).count true := ⟨_, rfl⟩
      rw [← hq] at hcj hsum ⊢
      have Hs := Lib.hid hsum
      clear hb ht hsum hq
      cases t
      all_goals
        go_wp2_with fail
        go_round
        case rel => exact ⟨j + 1, by omega, by go_num, by rw [Hs.out]; go_num⟩
        case measure => simp [intOf]; omega
    · obtain rfl : n = j := by omega
      rw [List.take_of_length_le (by omega)]
      go_wp2_with fail
      refine (get_any _ _ _ _ _ _ hs2 (by omega) (WalkArith.wf_i64 (by omega))).mono ?_
      have hget : getBits (putTo l n) (n : Int) = some l := by rw [← hlen]; exact getBits_put l
      rw [hget]
      rintro e w3 ⟨v3, rfl, hown3, hk3⟩
      rw [hlen] at hown3
      obtain ⟨a3, c3, rfl, hs3, _⟩ := Sl.ofOwn hown3
      have hs2' := hs2.kept hk3
      have hs' := hs.kept (hk12.transNo hk3)
      clear hown3 hget
      have hstr : ∀ wx, Keeps No w3 wx → (convert 24 9 (.slice a2 ((n + 7) / 8) c2)).run Try.prog wx = .ok (.string ⟨(putTo l n).toArray⟩) wx :=
        fun wx hx => (hs2'.kept hx).str (P := Try.prog) 24 9 5 Try.underlying24 Try.underlying5 Try.underlying9
      go_wp2_with fail
      refine wp_region_held_drew (S := fun wx => Keeps No w3 wx) (by kernel_rfl) (Keeps.refl _ _).drew (fun hS => ?_)
      refine tk (i := 0) (oi := ⟨some 33, _, _, _, _, _⟩) (v := ?_) rfl (by kernel_rfl) (fun _ _ _ h => h) (by assumption) (by rfl) (fun w hSw => ?_) ?_; rotate_left; (focus (first | (go_simp; done) | (go_simp; with_reducible rfl))); simp only [Act.put, List.setIfInBounds_toArray, List.set_cons_zero, List.set_cons_succ]
      refine tk (i := 1) (oi := ⟨some 34, _, _, _, _, _⟩) (v := ?_) rfl (by kernel_rfl) (fun _ _ _ h => h) (by assumption) (by rfl) (fun w hSw => ?_) ?_; rotate_left; (focus (first | (go_simp; done) | (go_simp; with_reducible rfl))); simp only [Act.put, List.setIfInBounds_toArray, List.set_cons_zero, List.set_cons_succ]
      refine tk (i := 2) (oi := ⟨some 35, _, _, _, _, _⟩) (v := ?_) rfl (by kernel_rfl) (fun _ _ _ h => h) (by assumption) (by rfl) (fun w hSw => ?_) ?_; rotate_left; (focus (first | (go_simp; done) | (go_simp; with_reducible rfl))); simp only [Act.put, List.setIfInBounds_toArray, List.set_cons_zero, List.set_cons_succ]
      refine alone (i := 3) (oi := ⟨some 36, _, _, _, _, _⟩) rfl (by kernel_rfl) (by rfl) (fun K hK => ?_); go_simp
      -- ARM 1: Op.call { callee := Callee.value (Operand.func 12), args := #[Operand.tmp 35], argTypes := #[22] }
      refine (refPut_any a n c l _ (hs'.kept hS) hn).mono ?_
      rintro e w4 ⟨v4, rfl, hown4, hk4⟩
      rw [refPut_eq, hlen, putTo_length, hlen] at hown4
      obtain ⟨a4, c4, rfl, hs4, _⟩ := Sl.ofOwn hown4
      clear hown4
      go_simp
      have hs2' := hs2'.kept (hS.transNo hk4)
      have hs3 := hs3.kept (hS.transNo hk4)
      have hs' := hs'.kept (hS.transNo hk4)
      have hk := (hk12.transNo hk3).transNo (hS.transNo hk4)
      refine hK.out (fun wx => Keeps No w4 wx) _ _ (fun _ hx => hS.transNo (hk4.transNo hx)) (Keeps.refl _ _) ?_
      clear hK K hS
      intro hS
      have hstr4 : ∀ wx, Keeps No w4 wx → _ := fun wx hx => (hs4.kept hx).str (P := Try.prog) (w := wx) 24 9 5 Try.underlying24 Try.underlying5 Try.underlying9
      refine tk (i := 4) (oi := ⟨some 37, _, _, _, _, _⟩) (v := ?_) rfl (by kernel_rfl) (fun _ _ _ h => h) (by assumption) (by rfl) (fun w hSw => ?_) ?_; rotate_left; (focus (first | (go_simp; done) | (go_simp; with_reducible rfl))); simp only [Act.put, List.setIfInBounds_toArray, List.set_cons_zero, List.set_cons_succ]
      refine tk (i := 5) (oi := ⟨some 38, _, _, _, _, _⟩) (v := ?_) rfl (by kernel_rfl) (fun _ _ _ h => h) (by assumption) (by rfl) (fun w hSw => ?_) ?_; rotate_left; (focus (first | (go_simp; done) | (go_simp; with_reducible rfl))); simp only [Act.put, List.setIfInBounds_toArray, List.set_cons_zero, List.set_cons_succ]
      refine tk (i := 6) (oi := ⟨some 39, _, _, _, _, _⟩) (v := ?_) rfl (by kernel_rfl) (fun _ _ _ h => h) (by assumption) (by rfl) (fun w hSw => ?_) ?_; rotate_left; (focus (first | (go_simp; done) | (go_simp; with_reducible rfl))); simp only [Act.put, List.setIfInBounds_toArray, List.set_cons_zero, List.set_cons_succ]
      refine tk (i := 7) (oi := ⟨some 40, _, _, _, _, _⟩) (v := ?_) rfl (by kernel_rfl) (fun _ _ _ h => h) (by assumption) (by rfl) (fun w hSw => ?_) ?_; rotate_left; (focus (first | (go_simp; done) | (go_simp; with_reducible rfl))); simp only [Act.put, List.setIfInBounds_toArray, List.set_cons_zero, List.set_cons_succ]
      refine tk (i := 9) (oi := ⟨some 42, _, _, _, _, _⟩) (v := ?_) rfl (by kernel_rfl) (fun _ _ _ h => h) (by assumption) (by rfl) (fun w hSw => ?_) ?_; rotate_left; (focus (first | (go_simp; done) | (go_simp; with_reducible rfl))); simp only [Act.put, List.setIfInBounds_toArray, List.set_cons_zero, List.set_cons_succ]
      refine alone (i := 8) (oi := ⟨some 41, _, _, _, _, _⟩) rfl (by kernel_rfl) (by rfl) (fun K hK => ?_); go_simp
      -- ARM 2: Op.call { callee := Callee.value (Operand.func 13), args := #[Operand.tmp 40], argTypes := #[24] }
      refine (count_any _ _ _ _ _ hs2' (by omega)).mono ?_
      rw [show popAll (putTo l n) = l.count true from by rw [← hlen]; exact pop_put l]
      rintro e w5 ⟨rfl, rfl⟩
      go_simp
      refine hK.out (fun wx => Keeps No w4 wx) _ _ (fun _ hx => hx) (Keeps.refl _ _) ?_
      clear hK K hS
      intro hS
      refine tk (i := 10) (oi := ⟨some 43, _, _, _, _, _⟩) (v := ?_) rfl (by kernel_rfl) (fun _ _ _ h => h) (by assumption) (by rfl) (fun w hSw => ?_) ?_; rotate_left; (focus (first | (go_simp; done) | (go_simp; with_reducible rfl))); simp only [Act.put, List.setIfInBounds_toArray, List.set_cons_zero, List.set_cons_succ]
      refine tk (i := 11) (oi := ⟨some 44, _, _, _, _, _⟩) (v := ?_) rfl (by kernel_rfl) (fun _ _ _ h => h) (by assumption) (by rfl) (fun w hSw => ?_) ?_; rotate_left; (focus (first | (go_simp; done) | (go_simp; with_reducible rfl))); simp only [Act.put, List.setIfInBounds_toArray, List.set_cons_zero, List.set_cons_succ]
      refine tk (i := 12) (oi := ⟨some 45, _, _, _, _, _⟩) (v := ?_) rfl (by kernel_rfl) (fun _ _ _ h => h) (by assumption) (by rfl) (fun w hSw => ?_) ?_; rotate_left; (focus (first | (go_simp; done) | (go_simp; with_reducible rfl))); simp only [Act.put, List.setIfInBounds_toArray, List.set_cons_zero, List.set_cons_succ]
      refine tk (i := 13) (oi := ⟨some 46, _, _, _, _, _⟩) (v := ?_) rfl (by kernel_rfl) (fun _ _ _ h => h) (by assumption) (by rfl) (fun w hSw => ?_) ?_; rotate_left; (focus (first | (go_simp; done) | (go_simp; with_reducible rfl))); simp only [Act.put, List.setIfInBounds_toArray, List.set_cons_zero, List.set_cons_succ]
      refine tk (i := 14) (oi := ⟨some 47, _, _, _, _, _⟩) (v := ?_) rfl (by kernel_rfl) (fun _ _ _ h => h) (by assumption) (by rfl) (fun w hSw => ?_) ?_; rotate_left; (focus (first | (go_simp; done) | (go_simp; with_reducible rfl))); simp only [Act.put, List.setIfInBounds_toArray, List.set_cons_zero, List.set_cons_succ]
      refine tk (i := 15) (oi := ⟨some 48, _, _, _, _, _⟩) (v := ?_) rfl (by kernel_rfl) (fun _ _ _ h => h) (by assumption) (by rfl) (fun w hSw => ?_) ?_; rotate_left; (focus (first | (go_simp; done) | (go_simp; with_reducible rfl))); simp only [Act.put, List.setIfInBounds_toArray, List.set_cons_zero, List.set_cons_succ]
      refine tk (i := 16) (oi := ⟨some 49, _, _, _, _, _⟩) (v := ?_) rfl (by kernel_rfl) (fun _ _ _ h => h) (by assumption) (by rfl) (fun w hSw => ?_) ?_; rotate_left; (focus (first | (go_simp; done) | (go_simp; with_reducible rfl))); simp only [Act.put, List.setIfInBounds_toArray, List.set_cons_zero, List.set_cons_succ]
      refine tk (i := 17) (oi := ⟨some 50, _, _, _, _, _⟩) (v := ?_) rfl (by kernel_rfl) (fun _ _ _ h => h) (by assumption) (by rfl) (fun w hSw => ?_) ?_; rotate_left; (focus (first | (go_simp; done) | (go_simp; with_reducible rfl))); simp only [Act.put, List.setIfInBounds_toArray, List.set_cons_zero, List.set_cons_succ]
      refine alone (i := 18) (oi := ⟨some 51, _, _, _, _, _⟩) rfl (by kernel_rfl) (by rfl) (fun K hK => ?_); go_simp
      -- ARM 3: Op.call { callee := Callee.value (Operand.func 14), args := #[Operand.tmp 49, Operand.tmp 50], argTy
      refine (refSame_any _ _ _ _ _ _ _ _ _ hs3 hs' hn hn).mono ?_
      rintro e w6 ⟨rfl, hk6⟩
      go_simp
      have hk' := hk.transNo hk6
      refine hK.out (fun wx => Keeps No w6 wx) _ _ (fun _ hx => hk6.transNo hx) (Keeps.refl _ _) ?_
      clear hK K hS
      intro hS
      refine tk (i := 19) (oi := ⟨some 52, _, _, _, _, _⟩) (v := ?_) rfl (by kernel_rfl) (fun _ _ _ h => h) (by assumption) (by rfl) (fun w hSw => ?_) ?_; rotate_left; (focus (first | (go_simp; done) | (go_simp; with_reducible rfl))); simp only [Act.put, List.setIfInBounds_toArray, List.set_cons_zero, List.set_cons_succ]
      refine tk (i := 20) (oi := ⟨some 2, _, _, _, _, _⟩) (v := ?_) rfl (by kernel_rfl) (fun _ _ _ h => h) (by assumption) (by rfl) (fun w hSw => ?_) ?_; rotate_left; (focus (first | (go_simp; done) | (go_simp; with_reducible rfl))); simp only [Act.put, List.setIfInBounds_toArray, List.set_cons_zero, List.set_cons_succ]
      refine wpAnyH_done (by kernel_rfl) ?_ _
      go_wp2_with fail
      go_ret
      exact ⟨ret_bool (by simp), hk'⟩

set_option maxHeartbeats 1000000 in
theorem bitmapGets_any (a : Option Addr) (m c : Nat) (b : List UInt8) (n : Int) (w : World) (hs : Sl w a m c (b.map byteV)) (hm : m ≤ 140737488351232) (hn : (Lit.int .i64 n).wf = true) :
    Calls Try.prog 4 #[.slice a m c, .int .i64 n] w fun e w' => e = .returned (.bool true) ∧ Keeps No w w' := by
  have hlen : b.length = m := by simpa using hs.len
  go_enter Try.func4, Try.ntmps4
  go_wp2_with fail
  refine (first10_any _).mono ?_
  rintro e w1 ⟨rfl, hk1⟩
  by_cases hbig : m ≤ 300
  case neg =>
    go_wp2_with fail
    go_ret
    exact ⟨rfl, hk1⟩
  have heq := getBits_ref b n
  go_wp2_with fail
  refine (get_any a m c b n _ (hs.kept hk1) (by omega) hn).mono ?_
  intro e w2 h2
  cases hr : getBits b n with
  | none =>
    rw [hr] at h2 heq
    obtain ⟨rfl, hk2⟩ := h2
    have Heq := Lib.hid heq
    clear heq hr
    go_wp2_with fail
    refine (refGet_any a m c b n _ ((hs.kept hk1).kept hk2) (by omega) hn).mono ?_
    rw [← Heq.out]
    rintro e w3 ⟨rfl, hk3⟩
    go_wp2_with fail
    refine (refSame_any none 0 0 [] none 0 0 [] _ (Sl.none _) (Sl.none _) (by decide) (by decide)).mono ?_
    rintro e w4 ⟨rfl, hk4⟩
    have hk := hk1.transNo (hk2.transNo (hk3.transNo hk4))
    go_wp2_with fail
    refine wp_region_held_drew (S := fun wx => Keeps No w4 wx) (by kernel_rfl) (Keeps.refl _ _).drew (fun hS => ?_)
    refine tk (i := 0) (oi := ⟨some 35, _, _, _, _, _⟩) (v := ?_) rfl (by kernel_rfl) (fun _ _ _ h => h) (by assumption) (by rfl) (fun w hSw => ?_) ?_; rotate_left; (focus (first | (go_simp; done) | (go_simp; with_reducible rfl))); simp only [Act.put, List.setIfInBounds_toArray, List.set_cons_zero, List.set_cons_succ]
    refine tk (i := 1) (oi := ⟨some 36, _, _, _, _, _⟩) (v := ?_) rfl (by kernel_rfl) (fun _ _ _ h => h) (by assumption) (by rfl) (fun w hSw => ?_) ?_; rotate_left; (focus (first | (go_simp; done) | (go_simp; with_reducible rfl))); simp only [Act.put, List.setIfInBounds_toArray, List.set_cons_zero, List.set_cons_succ]
    refine tk (i := 2) (oi := ⟨some 37, _, _, _, _, _⟩) (v := ?_) rfl (by kernel_rfl) (fun _ _ _ h => h) (by assumption) (by rfl) (fun w hSw => ?_) ?_; rotate_left; (focus (first | (go_simp; done) | (go_simp; with_reducible rfl))); simp only [Act.put, List.setIfInBounds_toArray, List.set_cons_zero, List.set_cons_succ]
    refine tkNot (i := 3) (oi := ⟨some 38, _, _, _, _, _⟩) rfl (by kernel_rfl) (fun _ _ _ h => h) (by assumption) (by rfl) ?_; simp only [Act.put, List.setIfInBounds_toArray, List.set_cons_zero, List.set_cons_succ]
    refine tkNot (i := 4) (oi := ⟨some 39, _, _, _, _, _⟩) rfl (by kernel_rfl) (fun _ _ _ h => h) (by assumption) (by rfl) ?_; simp only [Act.put, List.setIfInBounds_toArray, List.set_cons_zero, List.set_cons_succ]
    refine tkNot (i := 5) (oi := ⟨some 40, _, _, _, _, _⟩) rfl (by kernel_rfl) (fun _ _ _ h => h) (by assumption) (by rfl) ?_; simp only [Act.put, List.setIfInBounds_toArray, List.set_cons_zero, List.set_cons_succ]
    refine tkNot (i := 6) (oi := ⟨some 41, _, _, _, _, _⟩) rfl (by kernel_rfl) (fun _ _ _ h => h) (by assumption) (by rfl) ?_; simp only [Act.put, List.setIfInBounds_toArray, List.set_cons_zero, List.set_cons_succ]
    refine tkNot (i := 7) (oi := ⟨some 42, _, _, _, _, _⟩) rfl (by kernel_rfl) (fun _ _ _ h => h) (by assumption) (by rfl) ?_; simp only [Act.put, List.setIfInBounds_toArray, List.set_cons_zero, List.set_cons_succ]
    refine tkNot (i := 8) (oi := ⟨some 43, _, _, _, _, _⟩) rfl (by kernel_rfl) (fun _ _ _ h => h) (by assumption) (by rfl) ?_; simp only [Act.put, List.setIfInBounds_toArray, List.set_cons_zero, List.set_cons_succ]
    refine tk (i := 9) (oi := ⟨some 44, _, _, _, _, _⟩) (v := ?_) rfl (by kernel_rfl) (fun _ _ _ h => h) (by assumption) (by rfl) (fun w hSw => ?_) ?_; rotate_left; (focus (first | (go_simp; done) | (go_simp; with_reducible rfl))); simp only [Act.put, List.setIfInBounds_toArray, List.set_cons_zero, List.set_cons_succ]
    refine tk (i := 10) (oi := ⟨some 4, _, _, _, _, _⟩) (v := ?_) rfl (by kernel_rfl) (fun _ _ _ h => h) (by assumption) (by rfl) (fun w hSw => ?_) ?_; rotate_left; (focus (first | (go_simp; done) | (go_simp; with_reducible rfl))); simp only [Act.put, List.setIfInBounds_toArray, List.set_cons_zero, List.set_cons_succ]
    refine wpAnyH_done (by kernel_rfl) ?_ _
    go_wp2_with fail
    go_ret
    exact ⟨rfl, hk.drew⟩
  | some l =>
    rw [hr] at h2 heq
    obtain ⟨v2, rfl, hown2, hk2⟩ := h2
    have hput := put_getBits b n l hr
    have hll : l.length ≤ 2400 := by
      have h1 := congrArg List.length hput
      rw [putTo_length, hlen] at h1; omega
    have Heq := Lib.hid heq
    obtain ⟨a2, c2, rfl, hs2, _⟩ := Sl.ofOwn hown2
    clear heq hr hown2
    go_wp2_with fail
    refine (refGet_any a m c b n _ ((hs.kept hk1).kept hk2) (by omega) hn).mono ?_
    rw [← Heq.out]
    rintro e w3 ⟨a3, c3, rfl, hs3r, hk3⟩
    go_wp2_with fail
    refine (refSame_any _ _ _ _ _ _ _ _ _ (hs2.kept hk3) hs3r (by omega) (by omega)).mono ?_
    rintro e w4 ⟨rfl, hk4⟩
    have hs3 := (hs2.kept hk3).kept hk4
    have hk := hk1.transNo (hk2.transNo (hk3.transNo hk4))
    have hs' := hs.kept hk
    have Hput := Lib.hid hput
    clear hput
    have hput := Hput.out
    have hstr7 : ∀ wx, Keeps No w4 wx → _ := fun wx hx => (hs'.kept hx).str (P := Try.prog) (w := wx) 24 9 5 Try.underlying24 Try.underlying5 Try.underlying9
    go_wp2_with fail
    refine wp_region_held_drew (S := fun wx => Keeps No w4 wx) (by kernel_rfl) (Keeps.refl _ _).drew (fun hS => ?_)
    refine tk (i := 0) (oi := ⟨some 35, _, _, _, _, _⟩) (v := ?_) rfl (by kernel_rfl) (fun _ _ _ h => h) (by assumption) (by rfl) (fun w hSw => ?_) ?_; rotate_left; (focus (first | (go_simp; done) | (go_simp; with_reducible rfl))); simp only [Act.put, List.setIfInBounds_toArray, List.set_cons_zero, List.set_cons_succ]
    refine tk (i := 1) (oi := ⟨some 36, _, _, _, _, _⟩) (v := ?_) rfl (by kernel_rfl) (fun _ _ _ h => h) (by assumption) (by rfl) (fun w hSw => ?_) ?_; rotate_left; (focus (first | (go_simp; done) | (go_simp; with_reducible rfl))); simp only [Act.put, List.setIfInBounds_toArray, List.set_cons_zero, List.set_cons_succ]
    refine tk (i := 2) (oi := ⟨some 37, _, _, _, _, _⟩) (v := ?_) rfl (by kernel_rfl) (fun _ _ _ h => h) (by assumption) (by rfl) (fun w hSw => ?_) ?_; rotate_left; (focus (first | (go_simp; done) | (go_simp; with_reducible rfl))); simp only [Act.put, List.setIfInBounds_toArray, List.set_cons_zero, List.set_cons_succ]
    refine tk (i := 3) (oi := ⟨some 38, _, _, _, _, _⟩) (v := ?_) rfl (by kernel_rfl) (fun _ _ _ h => h) (by assumption) (by rfl) (fun w hSw => ?_) ?_; rotate_left; (focus (first | (go_simp; done) | (go_simp; with_reducible rfl))); simp only [Act.put, List.setIfInBounds_toArray, List.set_cons_zero, List.set_cons_succ]
    refine tk (i := 6) (oi := ⟨some 41, _, _, _, _, _⟩) (v := ?_) rfl (by kernel_rfl) (fun _ _ _ h => h) (by assumption) (by rfl) (fun w hSw => ?_) ?_; rotate_left; (focus (first | (go_simp; done) | (go_simp; with_reducible rfl))); simp only [Act.put, List.setIfInBounds_toArray, List.set_cons_zero, List.set_cons_succ]
    refine tk (i := 7) (oi := ⟨some 42, _, _, _, _, _⟩) (v := ?_) rfl (by kernel_rfl) (fun _ _ _ h => h) (by assumption) (by rfl) (fun w hSw => ?_) ?_; rotate_left; (focus (first | (go_simp; done) | (go_simp; with_reducible rfl))); simp only [Act.put, List.setIfInBounds_toArray, List.set_cons_zero, List.set_cons_succ]
    refine alone (i := 4) (oi := ⟨some 39, _, _, _, _, _⟩) rfl (by kernel_rfl) (by rfl) (fun K hK => ?_); go_simp
    -- ARM 1: Op.call { callee := Callee.value (Operand.func 10), args := #[Operand.tmp 38], argTypes := #[22] }
    refine (put_any _ _ _ _ _ (hs3.kept hS) (by omega)).mono ?_
    rintro e w6 ⟨v6, rfl, hown6, hk6⟩
    rw [hput, hlen] at hown6
    obtain ⟨a6, c6, rfl, hs6, _⟩ := Sl.ofOwn hown6
    clear hown6
    go_simp
    have hs' := hs'.kept (hS.transNo hk6)
    have hk := hk.transNo (hS.transNo hk6)
    refine hK.out (fun wx => Keeps No w6 wx) _ _ (fun _ hx => hS.transNo (hk6.transNo hx)) (Keeps.refl _ _) ?_
    clear hK K hS
    intro hS
    have hstr6 : ∀ wx, Keeps No w6 wx → _ := fun wx hx => (hs6.kept hx).str (P := Try.prog) (w := wx) 24 9 5 Try.underlying24 Try.underlying5 Try.underlying9
    refine tk (i := 5) (oi := ⟨some 40, _, _, _, _, _⟩) (v := ?_) rfl (by kernel_rfl) (fun _ _ _ h => h) (by assumption) (by rfl) (fun w hSw => ?_) ?_; rotate_left; (focus (first | (go_simp; done) | (go_simp; with_reducible rfl))); simp only [Act.put, List.setIfInBounds_toArray, List.set_cons_zero, List.set_cons_succ]
    refine tk (i := 8) (oi := ⟨some 43, _, _, _, _, _⟩) (v := ?_) rfl (by kernel_rfl) (fun _ _ _ h => h) (by assumption) (by rfl) (fun w hSw => ?_) ?_; rotate_left; (focus (first | (go_simp; done) | (go_simp; with_reducible rfl))); simp only [Act.put, List.setIfInBounds_toArray, List.set_cons_zero, List.set_cons_succ]
    refine tk (i := 9) (oi := ⟨some 44, _, _, _, _, _⟩) (v := ?_) rfl (by kernel_rfl) (fun _ _ _ h => h) (by assumption) (by rfl) (fun w hSw => ?_) ?_; rotate_left; (focus (first | (go_simp; done) | (go_simp; with_reducible rfl))); simp only [Act.put, List.setIfInBounds_toArray, List.set_cons_zero, List.set_cons_succ]
    refine tk (i := 10) (oi := ⟨some 4, _, _, _, _, _⟩) (v := ?_) rfl (by kernel_rfl) (fun _ _ _ h => h) (by assumption) (by rfl) (fun w hSw => ?_) ?_; rotate_left; (focus (first | (go_simp; done) | (go_simp; with_reducible rfl))); simp only [Act.put, List.setIfInBounds_toArray, List.set_cons_zero, List.set_cons_succ]
    refine wpAnyH_done (by kernel_rfl) ?_ _
    go_wp2_with fail
    go_ret
    exact ⟨rfl, hk⟩

theorem owns_empty (w : World) (base : Nat) (e t : TypeId) (hb : base ≤ w.heap.size) : (w.alloc (.cells #[] e)).ownsRow base e 1 (.slice (some ⟨w.heap.size, 0, none⟩) 0 0) 0 [] :=
  World.ownsRow_made w #[] 0 hb (Nat.zero_le _) (by simp)

set_option maxHeartbeats 1000000 in
theorem bitmapJoins_any (a : Option Addr) (n c : Nat) (l : List Bool) (a' : Option Addr) (n' c' : Nat) (l' : List Bool) (w : World) (hs : Sl w a n c (l.map Value.bool))
    (hn : n ≤ 140737488351232) (hs' : Sl w a' n' c' (l'.map Value.bool)) (hn' : n' ≤ 140737488351232) :
    Calls Try.prog 5 #[.slice a n c, .slice a' n' c'] w fun e w' => e = .returned (.bool true) ∧ Keeps No w w' := by
  have hlen : l.length = n := by simpa using hs.len
  have hlen' : l'.length = n' := by simpa using hs'.len
  go_enter Try.func5, Try.ntmps5
  go_wp2_with fail
  refine (first10_any _).mono ?_
  rintro e w1 ⟨rfl, hk1⟩
  by_cases hbig : n ≤ 500
  case neg =>
    go_wp2_with fail
    go_ret
    exact ⟨rfl, hk1⟩
  by_cases hbig' : n' ≤ 500
  case neg =>
    go_wp2_with fail
    go_ret
    exact ⟨rfl, hk1⟩
  obtain ⟨q, hq⟩ : ∃ q, q = n / 8 * 8 := ⟨_, rfl⟩
  have hqn : q ≤ n := by omega
  have hq8 : q % 8 = 0 := by omega
  have hql : (l.take q).length = q := by simp; omega
  have hle := hs.le
  have hs2 := hs.takev hqn
  have hqz : ((n : Int) / 8 * 8).toNat = q := by omega
  rw [← List.map_take] at hs2
  have Hq := Lib.hid hq
  have Hq8 := Lib.hid hq8
  have Hql := Lib.hid hql
  clear hq hq8 hql
  go_wp2_with fail
  refine (put_any _ _ _ _ _ (hs2.kept hk1) (by omega)).mono ?_
  rintro e w2 ⟨v2, rfl, hown2, hk2⟩
  obtain ⟨p, hp⟩ : ∃ p, p = (putTo (l.take q) q).length := ⟨_, rfl⟩
  rw [← hp] at hown2
  have hpb : p ≤ 64 := by have := putTo_length (l.take q) q; rw [Hql.out] at this; omega
  have Hp := Lib.hid hp
  clear hp
  obtain ⟨a3, c3, rfl, hs3, _⟩ := Sl.ofOwn hown2
  clear hown2
  go_wp2_with fail
  refine (put_any _ _ _ _ _ ((hs'.kept hk1).kept hk2) (by omega)).mono ?_
  rintro e w3 ⟨v3, rfl, hown3, hk3⟩
  obtain ⟨p', hp'⟩ : ∃ p, p = (putTo l' n').length := ⟨_, rfl⟩
  rw [← hp'] at hown3
  have hpb' : p' ≤ 64 := by have := putTo_length l' n'; omega
  have Hp' := Lib.hid hp'
  clear hp'
  obtain ⟨a4, c4, rfl, hs4, _⟩ := Sl.ofOwn hown3
  clear hown3
  have hk := hk1.transNo (hk2.transNo hk3)
  have hs2' := hs2.kept hk
  have hs'' := hs'.kept hk
  have hs3' := hs3.kept hk3
  go_wp2_with (at_builtin; refine app_own rfl _ (.tmp 29) 22 rfl w3.heap.size 4 (.bool false) 1 Try.underlying22 bool_info rfl (by decide) _ 0 [] rfl (owns_empty w3 _ _ 0 ?hB) _ _ _ _ rfl (hs2'.kept ((Keeps.refl _ _).alloc _)) ?h1 ?hb ?hB2 ?_)
  case hB => exact Nat.le_refl _
  case h1 => intro u hu; obtain ⟨_, _, rfl⟩ := List.mem_map.1 hu; rfl
  case hb => omega
  case hB2 => simp
  intro v5 w5 hown5 hg5
  have hk5 : Keeps No w w5 := (hk.alloc _).grown hg5 (fun k hk' hlt => absurd hlt (by have := hk.size; simp [Value.ownBlock] at hk'; omega))
  have hk35 : Keeps No w3 w5 := ((Keeps.refl No w3).alloc _).grown hg5 (fun k hk' hlt => absurd hlt (by simp [Value.ownBlock] at hk'; omega))
  go_wp2_with (at_builtin; refine app_own rfl _ (.tmp 31) 22 rfl w3.heap.size 4 (.bool false) 1 Try.underlying22 bool_info rfl (by decide) _ q _ rfl hown5 _ _ _ _ rfl (hs'.kept hk5) ?h1b ?hbb ?hB2b ?_)
  case h1b => intro u hu; obtain ⟨_, _, rfl⟩ := List.mem_map.1 hu; rfl
  case hbb => omega
  case hB2b => exact hk35.size
  intro v6 w6 hown6 hg6
  have hk36 : Keeps No w3 w6 := hk35.grown hg6 (fun k hk' hlt => absurd hlt (by have := hown5.lt k hk'; omega))
  have hk6 : Keeps No w w6 := hk.transNo hk36
  clear hown5 hg5 hg6
  rw [← List.map_take, ← List.map_append] at hown6
  obtain ⟨a6, c6, rfl, hs6, _⟩ := Sl.ofOwn hown6
  clear hown6
  go_wp2_with fail
  refine (put_any _ _ _ _ _ hs6 (by omega)).mono ?_
  have hj : putTo (l.take q ++ l') (q + n') = putTo (l.take q) q ++ putTo l' n' := by
    have := putTo_append (l.take q) l' (by rw [Hql.out]; exact Hq8.out)
    rwa [List.length_append, Hql.out, hlen'] at this
  rw [hj, List.length_append, ← Hp.out, ← Hp'.out]
  have hpop := popAll_append (putTo (l.take q) q) (putTo l' n')
  generalize putTo (l.take q) q = X at *
  generalize putTo l' n' = Y at *
  rintro e w7 ⟨v7, rfl, hown7, hk7⟩
  obtain ⟨a7, c7, rfl, hs7, _⟩ := Sl.ofOwn hown7
  clear hown7
  have hs3'' := (hs3'.kept hk36).kept hk7
  have hs4'' := (hs4.kept hk36).kept hk7
  have hst7 := hs7.str (P := Try.prog) 24 9 5 Try.underlying24 Try.underlying5 Try.underlying9
  have hst3 := hs3''.str (P := Try.prog) 24 9 5 Try.underlying24 Try.underlying5 Try.underlying9
  have hst4 := hs4''.str (P := Try.prog) 24 9 5 Try.underlying24 Try.underlying5 Try.underlying9
  have hadd := fun wx => run_add_bytes (P := Try.prog) wx X Y (by rw [← Hp.out, ← Hp'.out]; omega)
  have hpX : popAll X ≤ 8 * p := by rw [Hp.out]; exact popAll_le X
  have hpY : popAll Y ≤ 8 * p' := by rw [Hp'.out]; exact popAll_le Y
  have Hpop := Lib.hid hpop
  clear hpop
  go_wp2_with fail
  refine (count_any _ _ _ _ _ hs7 (by omega)).mono ?_
  rw [Hpop.out]
  rintro e w8 ⟨rfl, rfl⟩
  go_wp2_with fail
  refine (count_any _ _ _ _ _ hs3'' (by omega)).mono ?_
  rintro e w8 ⟨rfl, rfl⟩
  go_wp2_with fail
  refine (count_any _ _ _ _ _ hs4'' (by omega)).mono ?_
  rintro e w8 ⟨rfl, rfl⟩
  go_wp2_with fail
  go_ret
  exact ⟨ret_bool (by simp), hk6.transNo hk7⟩
end Go.Proofs.Ytghhfifjjhejeaa
