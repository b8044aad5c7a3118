import Derived.Test.YthbipcjgpocpaaaGreatFloat
import Derived.Test.YthbipcjgpocpaaaGreatMem
import Derived.Test.YthbipcjgpocpaaaGreatOrd
import Derived.Lib.Bytealg
import Derived.Lib.MinMax
import Derived.Laws.Externs
import Derived.Deep.LoopGhost
import Derived.Deep.DeepCutAuto
import Derived.Deep.CutBlock
/- The walks of packages float and value: how values compare. -/
namespace Go.Proofs.YthbipcjgpocpaaaGreat
open Go.RowKit
set_option linter.unusedSimpArgs false
set_option linter.unusedVariables false

theorem frombits (u : Nat) (w : World) : (callFunc 82 #[.int .u64 (u : Int)]).run Tryz.prog w = .ok (.value (.float .f64 u)) w := by
  rw [run_callFunc_extern Tryz.func82 (by kernel_rfl) (by kernel_rfl) (by kernel_rfl) (e := Extern.MathFloatBits.float64frombits) (by kernel_rfl)]
  rfl
theorem forder_self (u : Nat) : FloatKind.f64.format.order u u = if fnan u = true then none else some .eq := by
  have := double_order u u
  have e : cmpI (fkey u) (fkey u) = .eq := by unfold cmpI; simp
  rw [e] at this
  simp only [or_self] at this
  exact this
theorem isnan_any (u : Nat) (w : World) : Calls Tryz.prog 81 #[.float .f64 u] w fun e w' => e = .returned (.bool (fnan u)) ∧ w = w' := by
  have ho := forder_self u
  go_enter Tryz.func81, Tryz.ntmps81
  cases hu : fnan u
  all_goals
    rw [hu] at ho
    simp only [if_true, if_false, Bool.false_eq_true] at ho
    go_wp2_with fail
    go_ret
    exact ⟨rfl, rfl⟩

def canon (u : Nat) : Nat := if fnan u = true then 9221120237041090560 else u
theorem canon_any (u : Nat) (w : World) : Calls Tryz.prog 69 #[.int .u64 (u : Int)] w fun e w' => e = .returned (.int .u64 (canon u : Int)) ∧ w = w' := by
  have hfb := frombits
  go_enter Tryz.func69, Tryz.ntmps69
  go_wp2_with fail
  refine (isnan_any u _).mono ?_
  rintro e w1 ⟨rfl, rfl⟩
  cases hu : fnan u
  all_goals
    have hc : canon u = if fnan u = true then 9221120237041090560 else u := rfl
    rw [hu] at hc
    have Hc := Lib.hid hc
    clear hc hu
    go_wp2_with fail
    go_ret
    rw [Hc.out]
    exact ⟨rfl, rfl⟩

def cmp3 (a b : Int) : Int := if a < b then -1 else if b < a then 1 else 0
def fcmp (a b : Nat) : Int × Bool := if fnan a = true ∨ fnan b = true then (0, false) else (cmp3 (fkey a) (fkey b), true)
theorem fcmp_cases (a b : Nat) : (FloatKind.f64.format.order a b = none ∧ fcmp a b = (0, false)) ∨ (FloatKind.f64.format.order a b = some .lt ∧ fcmp a b = (-1, true)) ∨ (FloatKind.f64.format.order a b = some .eq ∧ fcmp a b = (0, true)) ∨ (FloatKind.f64.format.order a b = some .gt ∧ fcmp a b = (1, true)) := by
  have ho : FloatKind.f64.format.order a b = if fnan a = true ∨ fnan b = true then none else some (cmpI (fkey a) (fkey b)) := double_order a b
  rw [ho]
  unfold fcmp
  by_cases h : fnan a = true ∨ fnan b = true
  · rw [if_pos h, if_pos h]; exact .inl ⟨rfl, rfl⟩
  rw [if_neg h, if_neg h]
  unfold cmpI cmp3
  rcases Int.lt_trichotomy (fkey a) (fkey b) with h | h | h
  · rw [if_pos h, if_pos h]; exact .inr (.inl ⟨rfl, rfl⟩)
  · rw [if_neg (by omega), if_pos h, if_neg (by omega), if_neg (by omega)]; exact .inr (.inr (.inl ⟨rfl, rfl⟩))
  · rw [if_neg (by omega), if_neg (by omega), if_neg (by omega), if_pos h]; exact .inr (.inr (.inr ⟨rfl, rfl⟩))
theorem cmp3_lt {a b : Int} (h : a < b) : cmp3 a b = -1 := if_pos h
theorem cmp3_gt {a b : Int} (h : b < a) : cmp3 a b = 1 := by unfold cmp3; rw [if_neg (by omega), if_pos h]
theorem cmp3_eq (a : Int) : cmp3 a a = 0 := by unfold cmp3; rw [if_neg (by omega), if_neg (by omega)]
/-- cmp.Or of a row: the first that is not nought. -/
def orL : List Int → Int
  | [] => 0
  | x :: t => if x = 0 then orL t else x
theorem orL_drop (l : List Int) (j : Nat) (h : j < l.length) : orL (l.drop j) = if l[j] = 0 then orL (l.drop (j + 1)) else l[j] := by
  rw [List.drop_eq_getElem_cons h]; rfl
def cmpS (a b : ByteArray) : Int := Lib.compareBytes a.data.toList b.data.toList
theorem xor_ones64 (y : Nat) (h : y < 2 ^ 64) : (2 ^ 64 - 1) ^^^ y = 2 ^ 64 - 1 - y := by
  refine Nat.eq_of_testBit_eq fun i => ?_
  rw [Nat.testBit_xor, Nat.testBit_two_pow_sub_one]
  rw [show 2 ^ 64 - 1 - y = 2 ^ 64 - (y + 1) from by omega, Nat.testBit_two_pow_sub_succ h]
  by_cases hi : i < 64
  · simp [hi]
  · have : y.testBit i = false := Nat.testBit_lt_two_pow (Nat.lt_of_lt_of_le h (Nat.pow_le_pow_right (by decide) (by omega)))
    simp [hi, this]
theorem bits_xor_max (q : Nat) (h : q < 18446744073709551616) : bits .xor .u64 IntKind.u64.max (q : Int) = 18446744073709551615 - (q : Int) := by
  have h1 : (BitVec.ofInt 64 IntKind.u64.max).toNat = 2 ^ 64 - 1 := by decide
  have h2 : (BitVec.ofInt 64 (q : Int)).toNat = q := by rw [BitVec.ofInt_natCast, BitVec.toNat_ofNat]; exact Nat.mod_eq_of_lt (by omega)
  show IntKind.u64.wrap ((BitVec.ofInt 64 IntKind.u64.max ^^^ BitVec.ofInt 64 (q : Int)).toNat : Int) = _
  rw [BitVec.toNat_xor, h1, h2, xor_ones64 q (by omega), IntKind.wrap_u64]
  omega
def frank (u : Nat) : Nat := if 9223372036854775808 ≤ canon u then 18446744073709551615 - canon u else canon u + 9223372036854775808
def forder (a b : Nat) : Int := cmp3 (frank a) (frank b)
/-- A value of package api. -/
structure Va where
  k : Int
  n : Int
  s : ByteArray
  f : Nat
deriving DecidableEq
def Va.cells (v : Va) : List Value := [.int .i64 v.k, .int .i64 v.n, .string v.s, .int .u64 (v.f : Int)]
def Va.wf (v : Va) : Prop := (Lit.int .i64 v.k).wf = true ∧ (Lit.int .i64 v.n).wf = true ∧ v.f < 18446744073709551616
def Va.agg (v : Va) : Value := .agg #[.int .i64 v.k, .int .i64 v.n, .string v.s, .int .u64 (v.f : Int)]
def Va.zero : Va := ⟨0, 0, ByteArray.empty, 0⟩

theorem barr_eq (a b : ByteArray) : (a.toList == b.toList) = decide (a = b) := by
  rw [ByteArray.toList_eq, ByteArray.toList_eq]
  obtain ⟨a⟩ := a
  obtain ⟨b⟩ := b
  by_cases h : a = b
  · simp [h]
  · have : ¬ a.toList = b.toList := fun e => h (by simpa using e)
    simp [h]
theorem val_eql (a b : Va) (w : World) : (binOp .eql 32 a.agg b.agg).run Tryz.prog w = .ok (.bool (decide (a = b))) w := by
  obtain ⟨k, n, s, f⟩ := a
  obtain ⟨k', n', s', f'⟩ := b
  have e : ((⟨k, n, s, f⟩ : Va) = ⟨k', n', s', f'⟩) ↔ k = k' ∧ n = n' ∧ s = s' ∧ f = f' := by simp
  rw [show decide ((⟨k, n, s, f⟩ : Va) = ⟨k', n', s', f'⟩) = decide (k = k' ∧ n = n' ∧ s = s' ∧ f = f') from decide_eq_decide.2 e]
  unfold Va.agg
  have hs := barr_eq s s'
  go_simp
  by_cases h0 : k = k' <;> by_cases h1 : n = n' <;> by_cases h2 : s = s' <;> by_cases h3 : f = f' <;> simp [h0, h1, h2, h3] <;> omega

theorem toList_nil (s : ByteArray) (h : ¬ s = ByteArray.empty) : ¬ s.toList = [] := by
  rw [ByteArray.toList_eq]
  intro e
  obtain ⟨⟨l⟩⟩ := s
  simp at e
  subst e
  exact h rfl
def rightV (v : Va) : Bool :=
  if v.k = 1 then decide (v.s = ByteArray.empty ∧ v.f = 0)
  else if v.k = 2 then decide (v.s = ByteArray.empty ∧ v.f = 0 ∧ (v.n = 0 ∨ v.n = 1))
  else if v.k = 3 then decide (v.n = 0 ∧ v.f = 0 ∧ v.s.size ≤ 64)
  else if v.k = 4 then decide (v.n = 0 ∧ v.s = ByteArray.empty ∧ canon v.f = v.f)
  else decide (v = Va.zero)

theorem bits_and_one (n : Int) (h : -9223372036854775808 ≤ n ∧ n ≤ 9223372036854775807) : bits .and .i64 n 1 = n % 2 := by
  have h1 : (BitVec.ofInt 64 (1 : Int)).toNat = 1 := by decide
  have h2 : (BitVec.ofInt 64 n).toNat = (n % 18446744073709551616).toNat := by rw [BitVec.toNat_ofInt]; rfl
  show IntKind.i64.wrap ((BitVec.ofInt 64 n &&& BitVec.ofInt 64 1).toNat : Int) = _
  rw [BitVec.toNat_and, h1, h2, Nat.and_one_is_mod, IntKind.wrap_i64]
  omega

set_option maxHeartbeats 1000000 in
theorem right_any (v : Va) (hv : v.wf) (w : World) : Calls Tryz.prog 46 #[v.agg] w fun e w' => e = .returned (.bool (rightV v)) ∧ Keeps No w w' := by
  obtain ⟨k, n, s, f⟩ := v
  obtain ⟨hk, hn, hf⟩ := hv
  have hn' := wf_i64_iff hn
  simp only at hk hn hf hn'
  clear hk hn
  unfold Va.agg
  simp only
  by_cases h1 : k = 1
  · subst h1
    by_cases hs : s = ByteArray.empty
    · subst hs
      by_cases hf0 : f = 0
      all_goals
        go_enter Tryz.func46, Tryz.ntmps46
        go_wp2_with fail
        go_ret
        exact ⟨ret_bool (by simp [rightV, hf0]), (Keeps.refl No w).alloc _⟩
    · have hsl := toList_nil s hs
      go_enter Tryz.func46, Tryz.ntmps46
      go_wp2_with fail
      go_ret
      exact ⟨ret_bool (by simp [rightV, hs]), (Keeps.refl No w).alloc _⟩
  by_cases h2 : k = 2
  · subst h2
    by_cases hn1 : n = 0 ∨ n = 1
    · by_cases hs : s = ByteArray.empty
      · subst hs
        rcases hn1 with rfl | rfl
        all_goals
          have hb := bits_and_one 0 (by omega)
          have hb := bits_and_one 1 (by omega)
          by_cases hf0 : f = 0
          all_goals
            go_enter Tryz.func46, Tryz.ntmps46
            go_wp2_with fail
            go_ret
            exact ⟨ret_bool (by simp [rightV, hf0]), (Keeps.refl No w).alloc _⟩
      · have hsl := toList_nil s hs
        rcases hn1 with rfl | rfl
        all_goals
          have hb := bits_and_one 0 (by omega)
          have hb := bits_and_one 1 (by omega)
          go_enter Tryz.func46, Tryz.ntmps46
          go_wp2_with fail
          go_ret
          exact ⟨ret_bool (by simp [rightV, hs]), (Keeps.refl No w).alloc _⟩
    · obtain ⟨q, hq⟩ : ∃ q, q = n % 2 := ⟨_, rfl⟩
      have hb := bits_and_one n hn'
      rw [← hq] at hb
      have hne : ¬ n = q := by omega
      have Hn1 := Lib.hid hn1
      clear hq hn1
      go_enter Tryz.func46, Tryz.ntmps46
      go_wp2_with fail
      go_ret
      exact ⟨ret_bool (by simp [rightV, Hn1.out]), (Keeps.refl No w).alloc _⟩
  by_cases h3 : k = 3
  · subst h3
    by_cases hn0 : n = 0
    · subst hn0
      by_cases hf0 : f = 0
      · subst hf0
        have hd : decide ((s.size : Int) ≤ 64) = decide (s.size ≤ 64) := by apply decide_eq_decide.2; omega
        go_enter Tryz.func46, Tryz.ntmps46
        go_wp2_with fail
        go_ret
        exact ⟨ret_bool (by simp [rightV]), (Keeps.refl No w).alloc _⟩
      · go_enter Tryz.func46, Tryz.ntmps46
        go_wp2_with fail
        go_ret
        exact ⟨ret_bool (by simp [rightV, hf0]), (Keeps.refl No w).alloc _⟩
    · go_enter Tryz.func46, Tryz.ntmps46
      go_wp2_with fail
      go_ret
      exact ⟨ret_bool (by simp [rightV, hn0]), (Keeps.refl No w).alloc _⟩
  by_cases h4 : k = 4
  · subst h4
    have hrd : ∀ (n : Int) (s : ByteArray) wx, Keeps No (w.alloc (.cells #[.int .i64 4, .int .i64 n, .string s, .int .u64 (f : Int)] 32)) wx →
        wx.cell? ⟨w.heap.size, 0, none⟩ = some (.int .i64 4) ∧ wx.cell? ⟨w.heap.size, 1, none⟩ = some (.int .i64 n) ∧ wx.cell? ⟨w.heap.size, 2, none⟩ = some (.string s) ∧ wx.cell? ⟨w.heap.size, 3, none⟩ = some (.int .u64 (f : Int)) := fun n s wx hx => by
      have hb := hx.blk (heap_alloc_new w _) (not_No _)
      exact ⟨cell_of_row wx _ 0 _ _ (0, 0) hb, cell_of_row wx _ 1 _ _ (0, 0) hb, cell_of_row wx _ 2 _ _ (0, 0) hb, cell_of_row wx _ 3 _ _ (0, 0) hb⟩
    by_cases hn0 : n = 0
    · subst hn0
      by_cases hs : s = ByteArray.empty
      · subst hs
        have hr := hrd 0 ByteArray.empty
        clear hrd
        obtain ⟨q, hq⟩ : ∃ q, q = canon f := ⟨_, rfl⟩
        have hqf : rightV ⟨4, 0, ByteArray.empty, f⟩ = decide (f = q) := by simp [rightV, hq, eq_comm]
        rw [hqf]
        clear hqf
        have Hq := Lib.hid hq
        clear hq
        by_cases hc : f = q
        · subst hc
          go_enter Tryz.func46, Tryz.ntmps46
          go_wp2_with fail
          refine wp_region_held_drew (S := fun wx => Keeps No (w.alloc (.cells #[.int .i64 4, .int .i64 0, .string ByteArray.empty, .int .u64 (f : Int)] 32)) wx) (by kernel_rfl) ((Keeps.refl _ _).drew) (fun hS => ?_)
          refine tk (i := 0) (oi := ⟨some 35, _, _, _, _, _⟩) (v := ?_) rfl (by kernel_rfl) (fun _ _ _ h => h) (by assumption) (by rfl) (fun w hSw => ?_) ?_; rotate_left; (focus (first | (go_simp; done) | (go_simp; with_reducible rfl))); simp only [Act.put, List.setIfInBounds_toArray, List.set_cons_zero, List.set_cons_succ]
          refine tk (i := 1) (oi := ⟨some 36, _, _, _, _, _⟩) (v := ?_) rfl (by kernel_rfl) (fun _ _ _ h => h) (by assumption) (by rfl) (fun w hSw => ?_) ?_; rotate_left; (focus (first | (go_simp; done) | (go_simp; with_reducible rfl))); simp only [Act.put, List.setIfInBounds_toArray, List.set_cons_zero, List.set_cons_succ]
          refine tk (i := 2) (oi := ⟨some 37, _, _, _, _, _⟩) (v := ?_) rfl (by kernel_rfl) (fun _ _ _ h => h) (by assumption) (by rfl) (fun w hSw => ?_) ?_; rotate_left; (focus (first | (go_simp; done) | (go_simp; with_reducible rfl))); simp only [Act.put, List.setIfInBounds_toArray, List.set_cons_zero, List.set_cons_succ]
          refine alone (i := 3) (oi := ⟨some 38, _, _, _, _, _⟩) rfl (by kernel_rfl) (by rfl) (fun K hK => ?_); go_simp
          refine (canon_any f _).mono ?_
          rw [← Hq.out]
          rintro e w1 ⟨rfl, rfl⟩
          refine hK.out (fun wx => Keeps No (w.alloc (.cells #[.int .i64 4, .int .i64 0, .string ByteArray.empty, .int .u64 (f : Int)] 32)) wx) _ _ (fun _ h => h) (hS) ?_
          clear hK K hS
          intro hS
          refine tk (i := 4) (oi := ⟨some 39, _, _, _, _, _⟩) (v := ?_) rfl (by kernel_rfl) (fun _ _ _ h => h) (by assumption) (by rfl) (fun w hSw => ?_) ?_; rotate_left; (focus (first | (go_simp; done) | (go_simp; with_reducible rfl))); simp only [Act.put, List.setIfInBounds_toArray, List.set_cons_zero, List.set_cons_succ]
          refine tk (i := 5) (oi := ⟨some 40, _, _, _, _, _⟩) (v := ?_) rfl (by kernel_rfl) (fun _ _ _ h => h) (by assumption) (by rfl) (fun w hSw => ?_) ?_; rotate_left; (focus (first | (go_simp; done) | (go_simp; with_reducible rfl))); simp only [Act.put, List.setIfInBounds_toArray, List.set_cons_zero, List.set_cons_succ]
          refine tk (i := 6) (oi := ⟨some 2, _, _, _, _, _⟩) (v := ?_) rfl (by kernel_rfl) (fun _ _ _ h => h) (by assumption) (by rfl) (fun w hSw => ?_) ?_; rotate_left; (focus (first | (go_simp; done) | (go_simp; with_reducible rfl))); simp only [Act.put, List.setIfInBounds_toArray, List.set_cons_zero, List.set_cons_succ]
          refine wpAnyH_done (by kernel_rfl) ?_ _
          go_wp2_with fail
          go_ret
          exact ⟨ret_bool (by simp), ((Keeps.refl No w).alloc _).drew⟩
        · have hci : ¬ (f : Int) = (q : Int) := by omega
          go_enter Tryz.func46, Tryz.ntmps46
          go_wp2_with fail
          refine wp_region_held_drew (S := fun wx => Keeps No (w.alloc (.cells #[.int .i64 4, .int .i64 0, .string ByteArray.empty, .int .u64 (f : Int)] 32)) wx) (by kernel_rfl) ((Keeps.refl _ _).drew) (fun hS => ?_)
          refine tk (i := 0) (oi := ⟨some 35, _, _, _, _, _⟩) (v := ?_) rfl (by kernel_rfl) (fun _ _ _ h => h) (by assumption) (by rfl) (fun w hSw => ?_) ?_; rotate_left; (focus (first | (go_simp; done) | (go_simp; with_reducible rfl))); simp only [Act.put, List.setIfInBounds_toArray, List.set_cons_zero, List.set_cons_succ]
          refine tk (i := 1) (oi := ⟨some 36, _, _, _, _, _⟩) (v := ?_) rfl (by kernel_rfl) (fun _ _ _ h => h) (by assumption) (by rfl) (fun w hSw => ?_) ?_; rotate_left; (focus (first | (go_simp; done) | (go_simp; with_reducible rfl))); simp only [Act.put, List.setIfInBounds_toArray, List.set_cons_zero, List.set_cons_succ]
          refine tk (i := 2) (oi := ⟨some 37, _, _, _, _, _⟩) (v := ?_) rfl (by kernel_rfl) (fun _ _ _ h => h) (by assumption) (by rfl) (fun w hSw => ?_) ?_; rotate_left; (focus (first | (go_simp; done) | (go_simp; with_reducible rfl))); simp only [Act.put, List.setIfInBounds_toArray, List.set_cons_zero, List.set_cons_succ]
          refine alone (i := 3) (oi := ⟨some 38, _, _, _, _, _⟩) rfl (by kernel_rfl) (by rfl) (fun K hK => ?_); go_simp
          refine (canon_any f _).mono ?_
          rw [← Hq.out]
          rintro e w1 ⟨rfl, rfl⟩
          refine hK.out (fun wx => Keeps No (w.alloc (.cells #[.int .i64 4, .int .i64 0, .string ByteArray.empty, .int .u64 (f : Int)] 32)) wx) _ _ (fun _ h => h) (hS) ?_
          clear hK K hS
          intro hS
          refine tk (i := 4) (oi := ⟨some 39, _, _, _, _, _⟩) (v := ?_) rfl (by kernel_rfl) (fun _ _ _ h => h) (by assumption) (by rfl) (fun w hSw => ?_) ?_; rotate_left; (focus (first | (go_simp; done) | (go_simp; with_reducible rfl))); simp only [Act.put, List.setIfInBounds_toArray, List.set_cons_zero, List.set_cons_succ]
          refine tk (i := 5) (oi := ⟨some 40, _, _, _, _, _⟩) (v := ?_) rfl (by kernel_rfl) (fun _ _ _ h => h) (by assumption) (by rfl) (fun w hSw => ?_) ?_; rotate_left; (focus (first | (go_simp; done) | (go_simp; with_reducible rfl))); simp only [Act.put, List.setIfInBounds_toArray, List.set_cons_zero, List.set_cons_succ]
          refine tk (i := 6) (oi := ⟨some 2, _, _, _, _, _⟩) (v := ?_) rfl (by kernel_rfl) (fun _ _ _ h => h) (by assumption) (by rfl) (fun w hSw => ?_) ?_; rotate_left; (focus (first | (go_simp; done) | (go_simp; with_reducible rfl))); simp only [Act.put, List.setIfInBounds_toArray, List.set_cons_zero, List.set_cons_succ]
          refine wpAnyH_done (by kernel_rfl) ?_ _
          go_wp2_with fail
          go_ret
          exact ⟨ret_bool (by simp [hc]), ((Keeps.refl No w).alloc _).drew⟩
      · have hsl := toList_nil s hs
        have hr := hrd 0 s
        clear hrd
        go_enter Tryz.func46, Tryz.ntmps46
        go_wp2_with fail
        refine wp_region_held_drew (S := fun wx => Keeps No (w.alloc (.cells #[.int .i64 4, .int .i64 0, .string s, .int .u64 (f : Int)] 32)) wx) (by kernel_rfl) ((Keeps.refl _ _).drew) (fun hS => ?_)
        refine tk (i := 0) (oi := ⟨some 35, _, _, _, _, _⟩) (v := ?_) rfl (by kernel_rfl) (fun _ _ _ h => h) (by assumption) (by rfl) (fun w hSw => ?_) ?_; rotate_left; (focus (first | (go_simp; done) | (go_simp; with_reducible rfl))); simp only [Act.put, List.setIfInBounds_toArray, List.set_cons_zero, List.set_cons_succ]
        refine tk (i := 1) (oi := ⟨some 36, _, _, _, _, _⟩) (v := ?_) rfl (by kernel_rfl) (fun _ _ _ h => h) (by assumption) (by rfl) (fun w hSw => ?_) ?_; rotate_left; (focus (first | (go_simp; done) | (go_simp; with_reducible rfl))); simp only [Act.put, List.setIfInBounds_toArray, List.set_cons_zero, List.set_cons_succ]
        refine tk (i := 2) (oi := ⟨some 37, _, _, _, _, _⟩) (v := ?_) rfl (by kernel_rfl) (fun _ _ _ h => h) (by assumption) (by rfl) (fun w hSw => ?_) ?_; rotate_left; (focus (first | (go_simp; done) | (go_simp; with_reducible rfl))); simp only [Act.put, List.setIfInBounds_toArray, List.set_cons_zero, List.set_cons_succ]
        refine alone (i := 3) (oi := ⟨some 38, _, _, _, _, _⟩) rfl (by kernel_rfl) (by rfl) (fun K hK => ?_); go_simp
        refine (canon_any f _).mono ?_
        rintro e w1 ⟨rfl, rfl⟩
        refine hK.out (fun wx => Keeps No (w.alloc (.cells #[.int .i64 4, .int .i64 0, .string s, .int .u64 (f : Int)] 32)) wx) _ _ (fun _ h => h) (hS) ?_
        clear hK K hS
        intro hS
        refine tk (i := 4) (oi := ⟨some 39, _, _, _, _, _⟩) (v := ?_) rfl (by kernel_rfl) (fun _ _ _ h => h) (by assumption) (by rfl) (fun w hSw => ?_) ?_; rotate_left; (focus (first | (go_simp; done) | (go_simp; with_reducible rfl))); simp only [Act.put, List.setIfInBounds_toArray, List.set_cons_zero, List.set_cons_succ]
        refine tk (i := 5) (oi := ⟨some 40, _, _, _, _, _⟩) (v := ?_) rfl (by kernel_rfl) (fun _ _ _ h => h) (by assumption) (by rfl) (fun w hSw => ?_) ?_; rotate_left; (focus (first | (go_simp; done) | (go_simp; with_reducible rfl))); simp only [Act.put, List.setIfInBounds_toArray, List.set_cons_zero, List.set_cons_succ]
        refine tk (i := 6) (oi := ⟨some 2, _, _, _, _, _⟩) (v := ?_) rfl (by kernel_rfl) (fun _ _ _ h => h) (by assumption) (by rfl) (fun w hSw => ?_) ?_; rotate_left; (focus (first | (go_simp; done) | (go_simp; with_reducible rfl))); simp only [Act.put, List.setIfInBounds_toArray, List.set_cons_zero, List.set_cons_succ]
        refine wpAnyH_done (by kernel_rfl) ?_ _
        go_wp2_with fail
        go_ret
        exact ⟨ret_bool (by simp [rightV, hs]), ((Keeps.refl No w).alloc _).drew⟩
    · have hr := hrd n s
      clear hrd
      go_enter Tryz.func46, Tryz.ntmps46
      go_wp2_with fail
      refine wp_region_held_drew (S := fun wx => Keeps No (w.alloc (.cells #[.int .i64 4, .int .i64 n, .string s, .int .u64 (f : Int)] 32)) wx) (by kernel_rfl) ((Keeps.refl _ _).drew) (fun hS => ?_)
      refine tk (i := 0) (oi := ⟨some 35, _, _, _, _, _⟩) (v := ?_) rfl (by kernel_rfl) (fun _ _ _ h => h) (by assumption) (by rfl) (fun w hSw => ?_) ?_; rotate_left; (focus (first | (go_simp; done) | (go_simp; with_reducible rfl))); simp only [Act.put, List.setIfInBounds_toArray, List.set_cons_zero, List.set_cons_succ]
      refine tk (i := 1) (oi := ⟨some 36, _, _, _, _, _⟩) (v := ?_) rfl (by kernel_rfl) (fun _ _ _ h => h) (by assumption) (by rfl) (fun w hSw => ?_) ?_; rotate_left; (focus (first | (go_simp; done) | (go_simp; with_reducible rfl))); simp only [Act.put, List.setIfInBounds_toArray, List.set_cons_zero, List.set_cons_succ]
      refine tk (i := 2) (oi := ⟨some 37, _, _, _, _, _⟩) (v := ?_) rfl (by kernel_rfl) (fun _ _ _ h => h) (by assumption) (by rfl) (fun w hSw => ?_) ?_; rotate_left; (focus (first | (go_simp; done) | (go_simp; with_reducible rfl))); simp only [Act.put, List.setIfInBounds_toArray, List.set_cons_zero, List.set_cons_succ]
      refine alone (i := 3) (oi := ⟨some 38, _, _, _, _, _⟩) rfl (by kernel_rfl) (by rfl) (fun K hK => ?_); go_simp
      refine (canon_any f _).mono ?_
      rintro e w1 ⟨rfl, rfl⟩
      refine hK.out (fun wx => Keeps No (w.alloc (.cells #[.int .i64 4, .int .i64 n, .string s, .int .u64 (f : Int)] 32)) wx) _ _ (fun _ h => h) (hS) ?_
      clear hK K hS
      intro hS
      refine tk (i := 4) (oi := ⟨some 39, _, _, _, _, _⟩) (v := ?_) rfl (by kernel_rfl) (fun _ _ _ h => h) (by assumption) (by rfl) (fun w hSw => ?_) ?_; rotate_left; (focus (first | (go_simp; done) | (go_simp; with_reducible rfl))); simp only [Act.put, List.setIfInBounds_toArray, List.set_cons_zero, List.set_cons_succ]
      refine tk (i := 5) (oi := ⟨some 40, _, _, _, _, _⟩) (v := ?_) rfl (by kernel_rfl) (fun _ _ _ h => h) (by assumption) (by rfl) (fun w hSw => ?_) ?_; rotate_left; (focus (first | (go_simp; done) | (go_simp; with_reducible rfl))); simp only [Act.put, List.setIfInBounds_toArray, List.set_cons_zero, List.set_cons_succ]
      refine tk (i := 6) (oi := ⟨some 2, _, _, _, _, _⟩) (v := ?_) rfl (by kernel_rfl) (fun _ _ _ h => h) (by assumption) (by rfl) (fun w hSw => ?_) ?_; rotate_left; (focus (first | (go_simp; done) | (go_simp; with_reducible rfl))); simp only [Act.put, List.setIfInBounds_toArray, List.set_cons_zero, List.set_cons_succ]
      refine wpAnyH_done (by kernel_rfl) ?_ _
      go_wp2_with fail
      go_ret
      exact ⟨ret_bool (by simp [rightV, hn0]), ((Keeps.refl No w).alloc _).drew⟩
  · have hv0 : rightV ⟨k, n, s, f⟩ = decide ((⟨k, n, s, f⟩ : Va) = Va.zero) := by simp [rightV, h1, h2, h3, h4]
    rw [hv0]
    clear hv0
    by_cases hk0 : k = 0
    · subst hk0
      by_cases hn0 : n = 0
      · subst hn0
        by_cases hs : s = ByteArray.empty
        · subst hs
          by_cases hf0 : f = 0
          all_goals
            go_enter Tryz.func46, Tryz.ntmps46
            go_wp2_with fail
            go_ret
            exact ⟨ret_bool (by simp [Va.zero, hf0]), (Keeps.refl No w).alloc _⟩
        · have hsl := toList_nil s hs
          go_enter Tryz.func46, Tryz.ntmps46
          go_wp2_with fail
          go_ret
          exact ⟨ret_bool (by simp [Va.zero, hs]), (Keeps.refl No w).alloc _⟩
      · go_enter Tryz.func46, Tryz.ntmps46
        go_wp2_with fail
        go_ret
        exact ⟨ret_bool (by simp [Va.zero, hn0]), (Keeps.refl No w).alloc _⟩
    · go_enter Tryz.func46, Tryz.ntmps46
      go_wp2_with fail
      go_ret
      exact ⟨ret_bool (by simp [Va.zero, hk0]), (Keeps.refl No w).alloc _⟩
end Go.Proofs.YthbipcjgpocpaaaGreat
/- The walks of package value: right, Compare, Order. -/
namespace Go.Proofs.YthbipcjgpocpaaaGreat
open Go.RowKit
set_option linter.unusedSimpArgs false
set_option linter.unusedVariables false

def rightOf (v : Va) : Va := if rightV v = true then v else Va.zero
theorem rightOf_wf (v : Va) (hv : v.wf) : (rightOf v).wf := by
  unfold rightOf
  split
  · exact hv
  · exact ⟨by decide, by decide, by decide⟩
theorem rightOf_right (v : Va) : rightV (rightOf v) = true := by
  unfold rightOf
  split
  · assumption
  · decide
def vcmp (a b : Va) : Int × Bool :=
  if (rightOf a).k ≠ (rightOf b).k ∨ (rightOf a).k = 0 then (0, false)
  else if (rightOf a).k = 4 then fcmp (rightOf a).f (rightOf b).f
  else (orL [cmp3 (rightOf a).n (rightOf b).n, cmpS (rightOf a).s (rightOf b).s], true)
def vorder (a b : Va) : Int :=
  orL [cmp3 (rightOf a).k (rightOf b).k, cmp3 (rightOf a).n (rightOf b).n, cmpS (rightOf a).s (rightOf b).s, forder (rightOf a).f (rightOf b).f]

end Go.Proofs.YthbipcjgpocpaaaGreat
