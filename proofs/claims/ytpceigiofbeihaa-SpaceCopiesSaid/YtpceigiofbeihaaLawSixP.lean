/- Space: play, and what acts do. -/
import Derived.Test.YtpceigiofbeihaaLawSixF
import Derived.Test.YtpceigiofbeihaaRowKit
import Derived.Test.YtpceigiofbeihaaWide
import Derived.Handy
namespace Go.Proofs.Ytpceigiofbeihaa
open Go.RowKit
set_option linter.unusedSimpArgs false
set_option linter.unusedVariables false

def op6V (o : I64 × I64) : List Value := [.int .i64 o.1.1, .int .i64 o.2.1]

def takeT (T : List Bool) : List Bool := if T.findIdx (· == false) < T.length then T.set (T.findIdx (· == false)) true else T
def markT (T : List Bool) (i : Int) : List Bool := if 0 ≤ i ∧ T[i.toNat]? = some false then T.set i.toNat true else T
def giveT (T : List Bool) (r : Nat) (i : Int) : List Bool := if (r : Int) ≤ i ∧ T[i.toNat]? = some true then T.set i.toNat false else T
theorem takeT_length (T : List Bool) : (takeT T).length = T.length := by unfold takeT; split <;> simp
theorem markT_length (T : List Bool) (i : Int) : (markT T i).length = T.length := by unfold markT; split <;> simp
theorem giveT_length (T : List Bool) (r : Nat) (i : Int) : (giveT T r i).length = T.length := by unfold giveT; split <;> simp

theorem take_any (b tb : Nat) (T : List Bool) (r : Nat) (w : World) (h : SM w b tb T r) :
    Calls Try.prog 19 #[.pointer (some ⟨b, 0, none⟩)] w fun e w' =>
      e = .returned (.tuple #[.int .i64 (if T.findIdx (· == false) < T.length then (T.findIdx (· == false) : Int) else 0), .bool (decide (T.findIdx (· == false) < T.length))]) ∧ SM w' b tb (takeT T) r ∧ Keeps (fun k => k = tb) w w' := by
  by_cases hf : T.findIdx (· == false) < T.length
  · refine (take_some b tb T r w h hf).mono ?_
    rintro e w1 ⟨rfl, h1, h2⟩
    rw [if_pos hf, decide_eq_true hf]
    unfold takeT
    rw [if_pos hf]
    exact ⟨rfl, h1, h2⟩
  · refine (take_none b tb T r w h hf).mono ?_
    rintro e w1 ⟨rfl, rfl⟩
    rw [if_neg hf, decide_eq_false hf]
    unfold takeT
    rw [if_neg hf]
    exact ⟨rfl, h, Keeps.refl _ _⟩

theorem mark_any (b tb : Nat) (T : List Bool) (r : Nat) (w : World) (h : SM w b tb T r) (i : Int) :
    Calls Try.prog 24 #[.pointer (some ⟨b, 0, none⟩), .int .i64 i] w fun e w' =>
      e = .returned (.bool (decide (0 ≤ i ∧ T[i.toNat]? = some false))) ∧ SM w' b tb (markT T i) r ∧ Keeps (fun k => k = tb) w w' := by
  by_cases hc : 0 ≤ i ∧ T[i.toNat]? = some false
  · unfold markT
    rw [if_pos hc, decide_eq_true hc]
    obtain ⟨h0, h1⟩ := hc
    have := mark_yes b tb T r w h i.toNat h1
    rw [Int.toNat_of_nonneg h0] at this
    exact this
  · unfold markT
    rw [if_neg hc, decide_eq_false hc]
    refine (mark_no b tb T r w h i ?_).mono ?_
    · by_cases h0 : i < 0
      · exact .inl h0
      by_cases h1 : (T.length : Int) ≤ i
      · exact .inr (.inl h1)
      have hl : i.toNat < T.length := by omega
      refine .inr (.inr ⟨i.toNat, by omega, ?_⟩)
      rw [List.getElem?_eq_getElem hl] at hc ⊢
      cases hb : T[i.toNat] with
      | true => rfl
      | false => exact absurd ⟨by omega, by rw [hb]⟩ hc
    · rintro e w1 ⟨rfl, rfl⟩
      exact ⟨rfl, h, Keeps.refl _ _⟩

theorem give_any (b tb : Nat) (T : List Bool) (r : Nat) (w : World) (h : SM w b tb T r) (i : Int) :
    Calls Try.prog 20 #[.pointer (some ⟨b, 0, none⟩), .int .i64 i] w fun e w' =>
      e = .returned (.bool (decide ((r : Int) ≤ i ∧ T[i.toNat]? = some true))) ∧ SM w' b tb (giveT T r i) r ∧ Keeps (fun k => k = tb) w w' := by
  by_cases hc : (r : Int) ≤ i ∧ T[i.toNat]? = some true
  · unfold giveT
    rw [if_pos hc, decide_eq_true hc]
    obtain ⟨h0, h1⟩ := hc
    have := give_yes b tb T r w h i.toNat (by omega) h1
    rw [Int.toNat_of_nonneg (by omega)] at this
    exact this
  · unfold giveT
    rw [if_neg hc, decide_eq_false hc]
    refine (give_no b tb T r w h i ?_).mono ?_
    · by_cases h0 : i < r
      · exact .inl h0
      by_cases h1 : (T.length : Int) ≤ i
      · exact .inr (.inl h1)
      have hl : i.toNat < T.length := by omega
      refine .inr (.inr ⟨i.toNat, by omega, ?_⟩)
      rw [List.getElem?_eq_getElem hl] at hc ⊢
      cases hb : T[i.toNat] with
      | false => rfl
      | true => exact absurd ⟨by omega, by rw [hb]⟩ hc
    · rintro e w1 ⟨rfl, rfl⟩
      exact ⟨rfl, h, Keeps.refl _ _⟩

def stepT (r : Nat) (T : List Bool) (o : I64 × I64) : List Bool :=
  if ((IntKind.u64.wrap o.1.1).tmod 3 == 0) = true then takeT T else if ((IntKind.u64.wrap o.1.1).tmod 3 == 1) = true then markT T o.2.1 else giveT T r o.2.1
def playT (r : Nat) (T : List Bool) (L : List (I64 × I64)) : List Bool := (L.take 60).foldl (stepT r) T

set_option maxRecDepth 100000 in
set_option maxHeartbeats 4000000 in
theorem play_any (b tb : Nat) (T : List Bool) (r : Nat) (a : Option Addr) (n c : Nat) (L : List (I64 × I64)) (w : World) (hS : SM w b tb T r) (hs : SlK w 2 a n c (L.map op6V)) (hn : n ≤ 140737488351232) (ha : 0 < n → (a.getD default).block ≠ tb) :
    Calls Try.prog 32 #[.pointer (some ⟨b, 0, none⟩), .slice a n c] w fun e w' => e = .returned (.tuple #[]) ∧ SM w' b tb (playT r T L) r ∧ Keeps (fun k => k = tb) w w' := by
  have hlen : L.length = n := by simpa using hs.len
  have Hlen := Lib.hid hlen
  clear hlen
  go_enter Try.func32, Try.ntmps32
  go_wp2_with fail
  go_loopw [4, 5, 8, 23, 27] (fun _ _ i _ _ wr => ∃ (j : Nat) (T' : List Bool), j ≤ n ∧ j ≤ 60 ∧ i = .int .i64 j ∧ SM wr b tb T' r ∧ T' = (L.take j).foldl (stepT r) T ∧ Keeps (fun k => k = tb) w wr)
    (fun _ _ i _ _ _ => n - (intOf i).toNat)
  case atStart => exact ⟨0, T, Nat.zero_le _, Nat.zero_le _, rfl, hS, rfl, Keeps.refl _ _⟩
  case round =>
    obtain ⟨j, T', hj, hj60, rfl, hS', hl, hkr⟩ := hrel
    have Hl := Lib.hid hl
    clear hl
    by_cases hlt : j < n
    · have hjL : j < L.length := by rw [Hlen.out]; exact hlt
      have hsr := hs.keep hkr (fun h => ha h)
      have hix := hsr.ix (P := Try.prog) Try.underlying49 (by kernel_rfl) hlt .i64
      have hc0 := hsr.at_ (j := 0) hlt (by decide)
      have hc1 := hsr.at_ (j := 1) hlt (by decide)
      obtain ⟨o, ho⟩ : ∃ o, o = L[j] := ⟨_, rfl⟩
      have hb0 : (L.map op6V).getD j [] = op6V o := by rw [ho]; simp [hjL]
      rw [hb0] at hc0 hc1
      rw [Nat.add_zero] at hc0
      rw [show (op6V o).getD 0 undef = .int .i64 o.1.1 from rfl] at hc0
      rw [show (op6V o).getD 1 undef = .int .i64 o.2.1 from rfl] at hc1
      obtain ⟨hld, hlv⟩ := hsr.load (P := Try.prog) (ty := 54) Try.underlying54 rfl (by kernel_rfl) hlt
      rw [hb0, show (op6V o).toArray = #[.int .i64 o.1.1, .int .i64 o.2.1] from rfl] at hld hlv
      have hstep : (L.take (j + 1)).foldl (stepT r) T = stepT r ((L.take j).foldl (stepT r) T) o := by
        rw [List.take_succ_eq_append_getElem hjL, List.foldl_append, ← ho]; rfl
      rw [← Hl.out] at hstep
      have Hst := Lib.hid hstep
      clear hb0 ho hstep
      by_cases h60 : j < 60
      · cases hq0 : ((IntKind.u64.wrap o.1.1).tmod 3 == 0)
        · cases hq1 : ((IntKind.u64.wrap o.1.1).tmod 3 == 1)
          · go_wp2_with (refine wpList_loadV rfl 54 _ rfl _ rfl _ hld ?_)
            have hSA := hS'.kept ((Keeps.refl No wr).alloc (.cells #[.int .i64 o.1.1, .int .i64 o.2.1] 54))
            refine (give_any b tb T' r _ hSA o.2.1).mono ?_
            rintro e w5 ⟨rfl, hS5, hk5⟩
            go_wp2_with fail
            go_roundw
            case rel => exact ⟨j + 1, _, by omega, by omega, by go_num, hS5, by rw [Hst.out]; unfold stepT; simp [hq0, hq1], hkr.trans hk5.ofAlloc (fun k hk h => h)⟩
            case measure => simp [intOf]; omega
          · go_wp2_with (refine wpList_loadV rfl 54 _ rfl _ rfl _ hld ?_)
            have hSA := hS'.kept ((Keeps.refl No wr).alloc (.cells #[.int .i64 o.1.1, .int .i64 o.2.1] 54))
            refine (mark_any b tb T' r _ hSA o.2.1).mono ?_
            rintro e w5 ⟨rfl, hS5, hk5⟩
            go_wp2_with fail
            go_roundw
            case rel => exact ⟨j + 1, _, by omega, by omega, by go_num, hS5, by rw [Hst.out]; unfold stepT; simp [hq0, hq1], hkr.trans hk5.ofAlloc (fun k hk h => h)⟩
            case measure => simp [intOf]; omega
        · go_wp2_with (refine wpList_loadV rfl 54 _ rfl _ rfl _ hld ?_)
          have hSA := hS'.kept ((Keeps.refl No wr).alloc (.cells #[.int .i64 o.1.1, .int .i64 o.2.1] 54))
          refine (take_any b tb T' r _ hSA).mono ?_
          rintro e w5 ⟨rfl, hS5, hk5⟩
          go_wp2_with fail
          go_roundw
          case rel => exact ⟨j + 1, _, by omega, by omega, by go_num, hS5, by rw [Hst.out]; unfold stepT; simp [hq0], hkr.trans hk5.ofAlloc (fun k hk h => h)⟩
          case measure => simp [intOf]; omega
      · go_wp2_with (refine wpList_loadV rfl 54 _ rfl _ rfl _ hld ?_)
        refine bodyPost_end (results_none rfl _ _ _) rfl ?_
        have e : playT r T L = T' := by
          unfold playT
          rw [Hl.out, show j = 60 by omega]
        rw [e]
        exact ⟨rfl, hS'.kept ((Keeps.refl No wr).alloc _), hkr.alloc _⟩
    · obtain rfl : n = j := by omega
      go_wp2_with fail
      refine bodyPost_end (results_none rfl _ _ _) rfl ?_
      have e : playT r T L = T' := by
        unfold playT
        rw [Hl.out, List.take_of_length_le (by rw [Hlen.out]; omega), List.take_of_length_le (by rw [Hlen.out]; exact Nat.le_refl _)]
      rw [e]
      exact ⟨rfl, hS', hkr⟩
end Go.Proofs.Ytpceigiofbeihaa
