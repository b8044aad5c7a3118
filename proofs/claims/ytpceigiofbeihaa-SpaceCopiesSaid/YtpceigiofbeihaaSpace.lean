/- The walks of package space, each function once; what a map of blocks is. -/
import Derived.Test.YtpceigiofbeihaaNum
import Derived.Laws.OwnMore
import Derived.OwnWalk
namespace Go.Proofs.Ytpceigiofbeihaa
open Go.RowKit
set_option linter.unusedSimpArgs false
set_option linter.unusedVariables false

theorem own_base {w : World} {base : Nat} {e : TypeId} {size : Nat} {v : Value} {n : Nat} {xs : List Value} (h : w.ownsRow base e size v n xs) : w.ownsRow 0 e size v n xs := by
  refine ⟨h.1, ?_⟩
  rcases h.2 with hn | ⟨g, cap, cur, rfl, hb, rest⟩
  · exact .inl hn
  · exact .inr ⟨g, cap, cur, rfl, Nat.zero_le _, rest⟩

/-- The map at block b, its row in block tb: which blocks are taken, how many are reserved. -/
def SM (w : World) (b tb : Nat) (T : List Bool) (r : Nat) : Prop :=
  ∃ n c, T.length = n ∧ w.heap[b]? = some (.cells #[.slice (some ⟨tb, 0, none⟩) n c, .int .i64 (r : Int)] 89 (0, 0)) ∧
    w.ownsRow 0 4 1 (.slice (some ⟨tb, 0, none⟩) n c) n (T.map Value.bool) ∧ b ≠ tb ∧ 0 < n ∧ n ≤ 4096 ∧ r ≤ n

theorem SM.keep {w w' : World} {b tb : Nat} {T : List Bool} {r : Nat} {S : Nat → Prop} (h : SM w b tb T r) (k : Keeps S w w') (hb : ¬ S b) (htb : ¬ S tb) : SM w' b tb T r := by
  obtain ⟨n, c, h0, h1, h2, h3⟩ := h
  exact ⟨n, c, h0, k.blk h1 hb, k.own h2 (fun i hi => by simp [Value.ownBlock] at hi; subst hi; exact htb), h3⟩
theorem SM.kept {w w' : World} {b tb : Nat} {T : List Bool} {r : Nat} (h : SM w b tb T r) (k : Keeps No w w') : SM w' b tb T r := h.keep k (not_No _) (not_No _)
theorem SM.ne {w : World} {b tb : Nat} {T : List Bool} {r : Nat} (h : SM w b tb T r) : b ≠ tb := by
  obtain ⟨n, c, h0, h1, h2, h3, _⟩ := h; exact h3
theorem SM.set {w : World} {b tb : Nat} {T : List Bool} {r : Nat} (h : SM w b tb T r) (i : Nat) (v : Bool) : SM (w.setCell ⟨tb, i, none⟩ (.bool v)) b tb (T.set i v) r ∧ Keeps (fun k => k = tb) w (w.setCell ⟨tb, i, none⟩ (.bool v)) := by
  have hk := Keeps.set w tb i (.bool v)
  obtain ⟨n, c, h0, h1, h2, h3, h4⟩ := h
  refine ⟨⟨n, c, by simpa using h0, hk.blk h1 h3, ?_, h3, h4⟩, hk⟩
  rw [List.map_set]
  exact (h2.stored i _).1

theorem SM.tb_lt {w : World} {b tb : Nat} {T : List Bool} {r : Nat} (h : SM w b tb T r) : tb < w.heap.size := by
  obtain ⟨n, c, h0, h1, h2, h3⟩ := h
  exact (h2.lt _ rfl).2
theorem SM.b_lt {w : World} {b tb : Nat} {T : List Bool} {r : Nat} (h : SM w b tb T r) : b < w.heap.size := by
  obtain ⟨n, c, h0, h1, h2⟩ := h
  exact (Array.getElem?_eq_some_iff.1 h1).1
theorem index_any (v : Bool) (a : Option Addr) (n c : Nat) (T : List Bool) (w : World) (hs : Sl w a n c (T.map Value.bool)) (hn : n ≤ 4096) :
    Calls Try.prog 35 #[.slice a n c, .bool v] w fun e w' =>
      e = .returned (.int .i64 (if T.findIdx (· == v) < n then (T.findIdx (· == v) : Int) else -1)) ∧ w = w' := by
  have hlen : T.length = n := by simpa using hs.len
  obtain ⟨f, hf⟩ : ∃ f, T.findIdx (· == v) = f := ⟨_, rfl⟩
  rw [hf]
  have Hf := Lib.hid hf
  have Hlen := Lib.hid hlen
  clear hf hlen
  go_enter Try.func35, Try.ntmps35
  go_wp2_with fail
  go_loopw [8] (fun i wr => ∃ j : Nat, j ≤ n ∧ j ≤ f ∧ i = .int .i64 j ∧ w = wr)
    (fun i _ => n - (intOf i).toNat)
  case atStart => exact ⟨0, Nat.zero_le _, Nat.zero_le _, rfl, rfl⟩
  case round =>
    obtain ⟨j, hj, hjf, rfl, rfl⟩ := hrel
    by_cases hlt : j < n
    · have hjT : j < T.length := by rw [Hlen.out]; exact hlt
      have hix := hs.ix (P := Try.prog) Try.underlying87 (by kernel_rfl) hlt .i64
      have hc := hs.at_ hlt
      obtain ⟨x, hx⟩ : ∃ x, x = T[j] := ⟨_, rfl⟩
      have hb : (T.map Value.bool).getD j undef = .bool x := by rw [hx]; simp [hjT]
      rw [hb] at hc
      clear hb
      by_cases hxv : x = v
      · have hfj : f = j := by
          have h1 : T.findIdx (· == v) = f := Hf.out
          have : T.findIdx (· == v) ≤ j := by
            apply Nat.le_of_not_lt
            intro h
            have := List.not_of_lt_findIdx h
            simp [← hx, hxv] at this
          omega
        subst hxv
        clear hx
        subst hfj
        go_wp2_with fail
        go_ret
        exact ⟨rfl, rfl⟩
      · have hne : f ≠ j := by
          intro e
          have h1 : T.findIdx (· == v) = j := Hf.out.trans e
          have h2 := List.findIdx_getElem (xs := T) (p := (· == v)) (w := by rw [h1]; exact hjT)
          simp only [h1] at h2
          rw [← hx] at h2
          simp at h2
          exact hxv h2
        have hvx : (v == x) = false := by rw [beq_eq_false_iff_ne]; exact fun e => hxv e.symm
        have Hvx := Lib.hid hx
        clear hx hxv
        go_wp2_with fail
        go_roundw
        case rel => exact ⟨j + 1, by omega, by omega, by go_num, by first | rfl | trivial⟩
        case measure => simp [intOf]; omega
    · obtain rfl : n = j := by omega
      go_wp2_with fail
      go_ret
      exact ⟨rfl, rfl⟩

theorem take_some (b tb : Nat) (T : List Bool) (r : Nat) (w : World) (h : SM w b tb T r) (hf : T.findIdx (· == false) < T.length) :
    Calls Try.prog 19 #[.pointer (some ⟨b, 0, none⟩)] w fun e w' =>
      e = .returned (.tuple #[.int .i64 (T.findIdx (· == false) : Int), .bool true]) ∧ SM w' b tb (T.set (T.findIdx (· == false)) true) r ∧ Keeps (fun k => k = tb) w w' := by
  have hS := h
  obtain ⟨n, c, h0, h1, h2, h3, h4, h5, h6⟩ := h
  obtain ⟨f, hff⟩ : ∃ f, T.findIdx (· == false) = f := ⟨_, rfl⟩
  obtain ⟨a', c', he, hsl, _⟩ := Sl.ofOwn h2
  simp only [Value.slice.injEq, true_and] at he
  obtain ⟨rfl, rfl⟩ := he
  have hcall := index_any false _ _ _ T w hsl h5
  rw [hff] at hcall hf ⊢
  rw [h0] at hf
  rw [if_pos hf] at hcall
  have hfr := h2.frozenAt f
  have hcl : ∃ u, w.cell? ⟨tb, f, none⟩ = some u := by
    rw [h2.cellAt f (by omega)]
    have : f < (T.map Value.bool).length := by simp; omega
    exact ⟨_, List.getElem?_eq_getElem this⟩
  obtain ⟨u, hcl⟩ := hcl
  have hc0 := cell_of_row w b 0 _ _ (0, 0) h1
  have Hff := Lib.hid hff
  have H0 := Lib.hid h0
  clear hff h0
  go_enter Try.func19, Try.ntmps19
  go_wp2_with fail
  refine hcall.mono ?_
  rintro e w1 ⟨rfl, rfl⟩
  go_wp2_with fail
  go_ret2
  have := hS.set f true
  exact ⟨rfl, this⟩

theorem take_none (b tb : Nat) (T : List Bool) (r : Nat) (w : World) (h : SM w b tb T r) (hf : ¬ T.findIdx (· == false) < T.length) :
    Calls Try.prog 19 #[.pointer (some ⟨b, 0, none⟩)] w fun e w' => e = .returned (.tuple #[.int .i64 0, .bool false]) ∧ w = w' := by
  obtain ⟨n, c, h0, h1, h2, h3, h4, h5, h6⟩ := h
  obtain ⟨a', c', he, hsl, _⟩ := Sl.ofOwn h2
  simp only [Value.slice.injEq, true_and] at he
  obtain ⟨rfl, rfl⟩ := he
  have hcall := index_any false _ _ _ T w hsl h5
  rw [h0] at hf
  rw [if_neg hf] at hcall
  have hc0 := cell_of_row w b 0 _ _ (0, 0) h1
  clear hf h0
  go_enter Try.func19, Try.ntmps19
  go_wp2_with fail
  refine hcall.mono ?_
  rintro e w1 ⟨rfl, rfl⟩
  go_wp2_with fail
  go_ret2
  exact ⟨rfl, rfl⟩

theorem take_nil (w : World) :
    Calls Try.prog 19 #[.pointer none] w fun e w' => e = .returned (.tuple #[.int .i64 0, .bool false]) ∧ w = w' := by
  go_enter Try.func19, Try.ntmps19
  go_wp2_with fail
  go_ret2
  exact ⟨rfl, rfl⟩

theorem free_any (b tb : Nat) (T : List Bool) (r : Nat) (w : World) (h : SM w b tb T r) :
    Calls Try.prog 21 #[.pointer (some ⟨b, 0, none⟩)] w fun e w' => e = .returned (.int .i64 (T.count false : Int)) ∧ w = w' := by
  obtain ⟨n, c, h0, h1, h2, h3, h4, h5, h6⟩ := h
  have hc0 := cell_of_row w b 0 _ _ (0, 0) h1
  have H0 := Lib.hid h0
  clear h0
  go_enter Try.func21, Try.ntmps21
  go_wp2_with fail
  go_loopw [3, 5, 13] (fun t _ i wr => ∃ j q : Nat, j ≤ n ∧ q ≤ j ∧ q = (T.take j).count false ∧ t = .int .i64 q ∧ i = .int .i64 j ∧ w = wr)
    (fun _ _ i _ => n - (intOf i).toNat)
  case atStart => exact ⟨0, 0, Nat.zero_le _, Nat.zero_le _, by simp, rfl, rfl, rfl⟩
  case round =>
    obtain ⟨j, q, hj, hq, hqe, rfl, rfl, rfl⟩ := hrel
    have Hq := Lib.hid hqe
    clear hqe
    by_cases hlt : j < n
    · have hjT : j < T.length := by rw [H0.out]; exact hlt
      have hcell := h2.cellAt j (by omega)
      obtain ⟨x, hx⟩ : ∃ x, x = T[j] := ⟨_, rfl⟩
      rw [List.getElem?_map, List.getElem?_eq_getElem hjT, Option.map_some, ← hx] at hcell
      have hstep : (T.take (j + 1)).count false = (T.take j).count false + (if x = false then 1 else 0) := by
        rw [List.take_succ_eq_append_getElem hjT, List.count_append, ← hx]
        cases x <;> simp
      have Hs := Lib.hid hstep
      clear hstep hx
      cases x
      · go_wp2_with fail
        go_roundw
        case rel => exact ⟨j + 1, q + 1, by omega, by omega, by rw [Hs.out, ← Hq.out]; rfl, by go_num, by go_num, by first | rfl | trivial⟩
        case measure => simp [intOf]; omega
      · go_wp2_with fail
        go_roundw
        case rel => exact ⟨j + 1, q, by omega, by omega, by rw [Hs.out, ← Hq.out]; rfl, rfl, by go_num, by first | rfl | trivial⟩
        case measure => simp [intOf]; omega
    · obtain rfl : n = j := by omega
      go_wp2_with fail
      go_ret
      refine ⟨ret_num ?_, rfl⟩
      rw [Hq.out, List.take_of_length_le (by rw [H0.out]; exact Nat.le_refl _)]

theorem free_nil (w : World) :
    Calls Try.prog 21 #[.pointer none] w fun e w' => e = .returned (.int .i64 0) ∧ w = w' := by
  go_enter Try.func21, Try.ntmps21
  go_wp2_with fail
  go_ret
  exact ⟨rfl, rfl⟩


theorem turn_yes (b tb : Nat) (T : List Bool) (r : Nat) (w : World) (h : SM w b tb T r) (i k : Nat) (was : Bool) (hk : k ≤ i) (hi : T[i]? = some was) :
    Calls Try.prog 36 #[.pointer (some ⟨b, 0, none⟩), .int .i64 i, .int .i64 k, .bool was] w fun e w' => e = .returned (.bool true) ∧ SM w' b tb (T.set i (!was)) r ∧ Keeps (fun k => k = tb) w w' := by
  have hS := h
  have hiT := (List.getElem?_eq_some_iff.1 hi).1
  obtain ⟨n, c, h0, h1, h2, h3, h4, h5, h6⟩ := h
  rw [h0] at hiT
  have hc0 := cell_of_row w b 0 _ _ (0, 0) h1
  have hcell := h2.cellAt i (by omega)
  rw [List.getElem?_map, hi] at hcell
  have hfr := h2.frozenAt i
  clear hi h0
  go_enter Try.func36, Try.ntmps36
  cases was
  · go_wp2_with fail
    go_ret
    exact ⟨rfl, hS.set i true⟩
  · go_wp2_with fail
    go_ret
    exact ⟨rfl, hS.set i false⟩

theorem turn_no (b tb : Nat) (T : List Bool) (r : Nat) (w : World) (h : SM w b tb T r) (i : Int) (k : Nat) (was : Bool) (hi : i < k ∨ (T.length : Int) ≤ i ∨ ∃ j : Nat, i = j ∧ T[j]? = some (!was)) :
    Calls Try.prog 36 #[.pointer (some ⟨b, 0, none⟩), .int .i64 i, .int .i64 k, .bool was] w fun e w' => e = .returned (.bool false) ∧ w = w' := by
  obtain ⟨n, c, h0, h1, h2, h3, h4, h5, h6⟩ := h
  have hc0 := cell_of_row w b 0 _ _ (0, 0) h1
  rw [h0] at hi
  go_enter Try.func36, Try.ntmps36
  by_cases h7 : i < k
  · clear hi h0
    go_wp2_with fail
    go_ret
    exact ⟨rfl, rfl⟩
  by_cases h8 : (n : Int) ≤ i
  · clear hi h0
    go_wp2_with fail
    go_ret
    exact ⟨rfl, rfl⟩
  obtain ⟨j, rfl, hj⟩ : ∃ j : Nat, i = j ∧ T[j]? = some (!was) := by
    rcases hi with h | h | h
    · exact absurd h h7
    · exact absurd h h8
    · exact h
  have hcell := h2.cellAt j (by omega)
  rw [List.getElem?_map, hj] at hcell
  clear hj h0 hi
  cases was
  · go_wp2_with fail
    go_ret
    exact ⟨rfl, rfl⟩
  · go_wp2_with fail
    go_ret
    exact ⟨rfl, rfl⟩

theorem turn_nil (w : World) (i k : Int) (was : Bool) :
    Calls Try.prog 36 #[.pointer none, .int .i64 i, .int .i64 k, .bool was] w fun e w' => e = .returned (.bool false) ∧ w = w' := by
  go_enter Try.func36, Try.ntmps36
  go_wp2_with fail
  go_ret
  exact ⟨rfl, rfl⟩

theorem mark_yes (b tb : Nat) (T : List Bool) (r : Nat) (w : World) (h : SM w b tb T r) (i : Nat) (hi : T[i]? = some false) :
    Calls Try.prog 24 #[.pointer (some ⟨b, 0, none⟩), .int .i64 i] w fun e w' => e = .returned (.bool true) ∧ SM w' b tb (T.set i true) r ∧ Keeps (fun k => k = tb) w w' := by
  go_enter Try.func24, Try.ntmps24
  go_wp2_with fail
  refine (turn_yes b tb T r w h i 0 false (Nat.zero_le _) hi).mono ?_
  rintro e w1 ⟨rfl, h1⟩
  go_wp2_with fail
  go_ret
  exact ⟨rfl, h1⟩

theorem mark_no (b tb : Nat) (T : List Bool) (r : Nat) (w : World) (h : SM w b tb T r) (i : Int) (hi : i < 0 ∨ (T.length : Int) ≤ i ∨ ∃ j : Nat, i = j ∧ T[j]? = some true) :
    Calls Try.prog 24 #[.pointer (some ⟨b, 0, none⟩), .int .i64 i] w fun e w' => e = .returned (.bool false) ∧ w = w' := by
  go_enter Try.func24, Try.ntmps24
  go_wp2_with fail
  refine (turn_no b tb T r w h i 0 false hi).mono ?_
  rintro e w1 ⟨rfl, rfl⟩
  go_wp2_with fail
  go_ret
  exact ⟨rfl, rfl⟩

theorem mark_nil (w : World) (i : Int) :
    Calls Try.prog 24 #[.pointer none, .int .i64 i] w fun e w' => e = .returned (.bool false) ∧ w = w' := by
  go_enter Try.func24, Try.ntmps24
  go_wp2_with fail
  refine (turn_nil w i 0 false).mono ?_
  rintro e w1 ⟨rfl, rfl⟩
  go_wp2_with fail
  go_ret
  exact ⟨rfl, rfl⟩

theorem give_yes (b tb : Nat) (T : List Bool) (r : Nat) (w : World) (h : SM w b tb T r) (i : Nat) (hr : r ≤ i) (hi : T[i]? = some true) :
    Calls Try.prog 20 #[.pointer (some ⟨b, 0, none⟩), .int .i64 i] w fun e w' => e = .returned (.bool true) ∧ SM w' b tb (T.set i false) r ∧ Keeps (fun k => k = tb) w w' := by
  have hS := h
  obtain ⟨n, c, h0, h1, h2, h3, h4, h5, h6⟩ := h
  have hc0 := cell_of_row w b 0 _ _ (0, 0) h1
  have hc1 := cell_of_row w b 1 _ _ (0, 0) h1
  clear h0
  go_enter Try.func20, Try.ntmps20
  go_wp2_with fail
  refine (turn_yes b tb T r w hS i r true hr hi).mono ?_
  rintro e w1 ⟨rfl, h1⟩
  go_wp2_with fail
  go_ret
  exact ⟨rfl, h1⟩

theorem give_no (b tb : Nat) (T : List Bool) (r : Nat) (w : World) (h : SM w b tb T r) (i : Int) (hi : i < r ∨ (T.length : Int) ≤ i ∨ ∃ j : Nat, i = j ∧ T[j]? = some false) :
    Calls Try.prog 20 #[.pointer (some ⟨b, 0, none⟩), .int .i64 i] w fun e w' => e = .returned (.bool false) ∧ w = w' := by
  have hS := h
  obtain ⟨n, c, h0, h1, h2, h3, h4, h5, h6⟩ := h
  have hc0 := cell_of_row w b 0 _ _ (0, 0) h1
  have hc1 := cell_of_row w b 1 _ _ (0, 0) h1
  clear h0
  go_enter Try.func20, Try.ntmps20
  go_wp2_with fail
  refine (turn_no b tb T r w hS i r true hi).mono ?_
  rintro e w1 ⟨rfl, rfl⟩
  go_wp2_with fail
  go_ret
  exact ⟨rfl, rfl⟩

theorem give_nil (w : World) (i : Int) :
    Calls Try.prog 20 #[.pointer none, .int .i64 i] w fun e w' => e = .returned (.bool false) ∧ w = w' := by
  go_enter Try.func20, Try.ntmps20
  go_wp2_with fail
  go_ret
  exact ⟨rfl, rfl⟩

/-- Is block i taken? -/
def takenAt (T : List Bool) (i : Int) : Bool := decide (0 ≤ i) && (T[i.toNat]?).getD false

theorem taken_any (b tb : Nat) (T : List Bool) (r : Nat) (w : World) (h : SM w b tb T r) (i : Int) :
    Calls Try.prog 27 #[.pointer (some ⟨b, 0, none⟩), .int .i64 i] w fun e w' => e = .returned (.bool (takenAt T i)) ∧ w = w' := by
  obtain ⟨n, c, h0, h1, h2, h3, h4, h5, h6⟩ := h
  have hc0 := cell_of_row w b 0 _ _ (0, 0) h1
  obtain ⟨z, hz⟩ : ∃ z, takenAt T i = z := ⟨_, rfl⟩
  rw [hz]
  go_enter Try.func27, Try.ntmps27
  by_cases h7 : i < 0
  · have : z = false := by rw [← hz]; unfold takenAt; rw [decide_eq_false (by omega)]; rfl
    subst this
    clear hz h0
    go_wp2_with fail
    go_ret
    exact ⟨rfl, rfl⟩
  by_cases h8 : (n : Int) ≤ i
  · have : z = false := by rw [← hz]; unfold takenAt; rw [List.getElem?_eq_none (by omega)]; simp
    subst this
    clear hz h0
    go_wp2_with fail
    go_ret
    exact ⟨rfl, rfl⟩
  obtain ⟨j, rfl⟩ := Int.eq_ofNat_of_zero_le (show 0 ≤ i from by omega)
  have hjT : j < T.length := by omega
  have hcell := h2.cellAt j (by omega)
  have hzx : T[j] = z := by rw [← hz]; unfold takenAt; simp [hjT]
  rw [List.getElem?_map, List.getElem?_eq_getElem hjT, hzx] at hcell
  clear hz h0 hzx
  go_wp2_with fail
  go_ret
  exact ⟨rfl, rfl⟩

theorem taken_nil (w : World) (i : Int) :
    Calls Try.prog 27 #[.pointer none, .int .i64 i] w fun e w' => e = .returned (.bool false) ∧ w = w' := by
  go_enter Try.func27, Try.ntmps27
  go_wp2_with fail
  go_ret
  exact ⟨rfl, rfl⟩

/-- A new map's row. -/
def newT (n r : Nat) : List Bool := List.replicate r true ++ List.replicate (n - r) false
theorem newT_set (n j : Nat) (h : j < n) : (newT n j).set j true = newT n (j + 1) := by
  unfold newT
  rw [List.set_append_right _ _ (by simp)]
  simp only [List.length_replicate, Nat.sub_self]
  have : n - j = (n - (j + 1)) + 1 := by omega
  rw [this, List.replicate_succ, List.set_cons_zero, List.replicate_succ', List.append_assoc]
  rfl
theorem newT_length (n r : Nat) (h : r ≤ n) : (newT n r).length = n := by unfold newT; simp; omega

theorem new_bad (n r : Int) (w : World) (h : n < 1 ∨ 4096 < n ∨ r < 0 ∨ n < r) :
    Calls Try.prog 18 #[.int .i64 n, .int .i64 r] w fun e w' => e = .returned (.tuple #[.pointer none, .int .i64 2]) ∧ w = w' := by
  go_enter Try.func18, Try.ntmps18
  by_cases h1 : n < 1
  · clear h
    go_wp2_with fail
    go_ret2
    exact ⟨rfl, rfl⟩
  by_cases h2 : 4096 < n
  · clear h
    go_wp2_with fail
    go_ret2
    exact ⟨rfl, rfl⟩
  by_cases h3 : r < 0
  · clear h
    go_wp2_with fail
    go_ret2
    exact ⟨rfl, rfl⟩
  have h4 : n < r := by omega
  clear h
  go_wp2_with fail
  go_ret2
  exact ⟨rfl, rfl⟩

theorem new_ok (n r : Nat) (w : World) (h1 : 1 ≤ n) (h2 : n ≤ 4096) (h3 : r ≤ n) :
    Calls Try.prog 18 #[.int .i64 n, .int .i64 r] w fun e w' =>
      ∃ b tb, e = .returned (.tuple #[.pointer (some ⟨b, 0, none⟩), .int .i64 0]) ∧ SM w' b tb (newT n r) r ∧ w.heap.size ≤ b ∧ w.heap.size ≤ tb ∧ b < w'.heap.size ∧ tb < w'.heap.size ∧ Keeps No w w' := by
  obtain ⟨i0, hi, hz0, hz1, hz2⟩ := info_parts (show (Try.prog.info? 4).map (fun i => (i.zero, i.size, i.bytes)) = some (some (.bool false), 1, 1) from by kernel_rfl)
  go_enter Try.func18, Try.ntmps18
  go_wp2_with (at_make; refine wpList_make_full _ rfl _ _ 87 rfl 0 4 i0 (.bool false) 1 Try.underlying87 hi hz0 hz1 _ _ _ _ n rfl rfl ?hL ?hC ?b2 ?b3 ?b4 ?_)
  case hL => rfl
  case hC => rfl
  case b2 => first | omega | (rw [hz2]; omega)
  case b3 => unfold maxLen; omega
  case b4 => exact Nat.zero_le _
  intro w1 hown hg
  have hk1 : Keeps No w w1 := (Keeps.refl No w).grown hg (fun _ h => by cases h)
  have hlt1 : w.heap.size < w1.heap.size := (hown.lt _ rfl).2
  go_wp2_with fail
  go_loopw [7, 29] (fun _ i wr => ∃ j : Nat, j ≤ r ∧ i = .int .i64 j ∧ SM wr w1.heap.size w.heap.size (newT n j) r ∧ Keeps No w wr)
    (fun _ i _ => r - (intOf i).toNat)
  case atStart =>
    refine ⟨0, Nat.zero_le _, rfl, ?_, hk1.alloc _⟩
    have hkA : Keeps No w1 (w1.alloc (.cells #[.slice (some ⟨w.heap.size, 0, none⟩) n n, .int .i64 (r : Int)] 89)) := (Keeps.refl No w1).alloc _
    refine ⟨n, n, newT_length n 0 (Nat.zero_le _), heap_alloc_new w1 _, ?_, by omega, h1, h2, h3⟩
    refine hkA.own ?_ (fun _ _ => not_No _)
    rw [toList_madeCells_one] at hown
    simpa [newT] using hown
  case round =>
    obtain ⟨j, hj, rfl, hS, hkr⟩ := hrel
    obtain ⟨n', c, e0, e1, e2, e3, e4, e5, e6⟩ := id hS
    rw [newT_length n j (by omega)] at e0
    subst e0
    have hc0 := cell_of_row _ w1.heap.size 0 _ _ (0, 0) e1
    by_cases hlt : j < r
    · have hfr := e2.frozenAt j
      have hcl : ∃ u, wr.cell? ⟨w.heap.size, j, none⟩ = some u := by
        refine ⟨_, (e2.cellAt j (by omega)).trans (List.getElem?_eq_getElem (by rw [List.length_map, newT_length n j (by omega)]; omega))⟩
      obtain ⟨u, hcl⟩ := hcl
      go_wp2_with fail
      go_roundw
      case rel =>
        refine ⟨j + 1, by omega, by go_num, ?_, hkr.setCell (fun h => absurd h (by simp)) _⟩
        have := (hS.set j true).1
        rw [newT_set n j (by omega)] at this
        exact this
      case measure => simp [intOf]; omega
    · obtain rfl : r = j := by omega
      have hz := hkr.size
      go_wp2_with fail
      go_ret2
      exact ⟨_, _, rfl, hS, by omega, Nat.le_refl _, (Array.getElem?_eq_some_iff.1 e1).1, (e2.lt _ rfl).2, hkr⟩

theorem cloneT_any (a : Option Addr) (n c : Nat) (T : List Bool) (w : World) (hs : Sl w a n c (T.map Value.bool)) (h0 : 0 < n) (hn : n ≤ 4096) :
    Calls Try.prog 38 #[.slice a n c] w fun e w' =>
      ∃ g c', e = .returned (.slice (some ⟨g, 0, none⟩) n c') ∧ w'.ownsRow w.heap.size 4 1 (.slice (some ⟨g, 0, none⟩) n c') n (T.map Value.bool) ∧ Keeps No w w' := by
  have hq := fun wx => Lib.run_eql_slice_nil (P := Try.prog) wx 87 4 a n c 0 0 Try.underlying87
  obtain ⟨ad, rfl⟩ : ∃ ad, a = some ad := ⟨_, hs.isSome (i := 0) h0⟩
  go_enter Try.func38, Try.ntmps38
  go_wp2_with (at_builtin; refine app_ownS rfl _ _ 87 rfl w.heap.size 4 (.bool false) 1 Try.underlying87 (by kernel_rfl) rfl (by decide) _ 0 [] rfl (owns_lit0 w _ _ (Nat.le_refl _)) (fun h => by cases h) _ _ _ _ rfl (hs.kept ((Keeps.refl _ _).alloc _)) ?h1 ?hb ?hB2 ?_)
  case h1 => intro u hu; obtain ⟨x, _, rfl⟩ := List.mem_map.1 hu; rfl
  case hb => omega
  case hB2 => simp
  intro g c2 w2 hown2 hg2 hgb hgl
  go_wp2_with fail
  go_ret
  refine ⟨g, c2, ?_, ?_, ?_⟩
  · simp
  · simpa using hown2
  · exact ((Keeps.refl No w).alloc _).grown hg2 (fun k hk hlt => absurd hlt (by simp [Value.ownBlock] at hk; omega))

theorem copy_nil (w : World) :
    Calls Try.prog 33 #[.pointer none] w fun e w' => e = .returned (.pointer none) ∧ w = w' := by
  go_enter Try.func33, Try.ntmps33
  go_wp2_with fail
  go_ret
  exact ⟨rfl, rfl⟩

set_option maxHeartbeats 1000000 in
theorem copy_any (b tb : Nat) (T : List Bool) (r : Nat) (w : World) (h : SM w b tb T r) :
    Calls Try.prog 33 #[.pointer (some ⟨b, 0, none⟩)] w fun e w' =>
      ∃ b' tb', e = .returned (.pointer (some ⟨b', 0, none⟩)) ∧ SM w' b' tb' T r ∧ w.heap.size ≤ b' ∧ w.heap.size ≤ tb' ∧ b' < w'.heap.size ∧ tb' < w'.heap.size ∧ Keeps No w w' := by
  have hSM := h
  obtain ⟨n, c, h0, h1, h2, h3, h4, h5, h6⟩ := h
  obtain ⟨a', c', he, hsl, _⟩ := Sl.ofOwn h2
  simp only [Value.slice.injEq, true_and] at he
  obtain ⟨rfl, rfl⟩ := he
  have hc0 := fun wx (hx : Keeps No w wx) => (cell_of_row wx b 0 _ _ (0, 0) (hx.blk h1 (not_No _)))
  have hc1 := fun wx (hx : Keeps No w wx) => (cell_of_row wx b 1 _ _ (0, 0) (hx.blk h1 (not_No _)))
  go_enter Try.func33, Try.ntmps33
  go_wp2_with fail
  refine wp_region_held_drew (S := fun wx => Keeps No w wx) (by kernel_rfl) (Keeps.refl _ _).drew (fun hS => ?_)
  refine tk (i := 0) (oi := ⟨some 5, _, _, _, _, _⟩) (v := ?_) rfl (by kernel_rfl) (fun _ _ _ h => h) (by assumption) (by rfl) (fun w hSw => ?_) ?_; rotate_left; (focus (first | (go_simp; done) | (go_simp; with_reducible rfl))); simp only [Act.put, List.setIfInBounds_toArray, List.set_cons_zero, List.set_cons_succ]
  refine tk (i := 1) (oi := ⟨some 6, _, _, _, _, _⟩) (v := ?_) rfl (by kernel_rfl) (fun _ _ _ h => h) (by assumption) (by rfl) (fun w hSw => ?_) ?_; rotate_left; (focus (first | (go_simp; done) | (go_simp; with_reducible rfl))); simp only [Act.put, List.setIfInBounds_toArray, List.set_cons_zero, List.set_cons_succ]
  refine tk (i := 2) (oi := ⟨some 7, _, _, _, _, _⟩) (v := ?_) rfl (by kernel_rfl) (fun _ _ _ h => h) (by assumption) (by rfl) (fun w hSw => ?_) ?_; rotate_left; (focus (first | (go_simp; done) | (go_simp; with_reducible rfl))); simp only [Act.put, List.setIfInBounds_toArray, List.set_cons_zero, List.set_cons_succ]
  refine tk (i := 3) (oi := ⟨some 8, _, _, _, _, _⟩) (v := ?_) rfl (by kernel_rfl) (fun _ _ _ h => h) (by assumption) (by rfl) (fun w hSw => ?_) ?_; rotate_left; (focus (first | (go_simp; done) | (go_simp; with_reducible rfl))); simp only [Act.put, List.setIfInBounds_toArray, List.set_cons_zero, List.set_cons_succ]
  refine tk (i := 5) (oi := ⟨some 10, _, _, _, _, _⟩) (v := ?_) rfl (by kernel_rfl) (fun _ _ _ h => h) (by assumption) (by rfl) (fun w hSw => ?_) ?_; rotate_left; (focus (first | (go_simp; done) | (go_simp; with_reducible rfl))); simp only [Act.put, List.setIfInBounds_toArray, List.set_cons_zero, List.set_cons_succ]
  refine tk (i := 6) (oi := ⟨some 11, _, _, _, _, _⟩) (v := ?_) rfl (by kernel_rfl) (fun _ _ _ h => h) (by assumption) (by rfl) (fun w hSw => ?_) ?_; rotate_left; (focus (first | (go_simp; done) | (go_simp; with_reducible rfl))); simp only [Act.put, List.setIfInBounds_toArray, List.set_cons_zero, List.set_cons_succ]
  refine tk (i := 7) (oi := ⟨some 12, _, _, _, _, _⟩) (v := ?_) rfl (by kernel_rfl) (fun _ _ _ h => h) (by assumption) (by rfl) (fun w hSw => ?_) ?_; rotate_left; (focus (first | (go_simp; done) | (go_simp; with_reducible rfl))); simp only [Act.put, List.setIfInBounds_toArray, List.set_cons_zero, List.set_cons_succ]
  refine tk (i := 8) (oi := ⟨some 13, _, _, _, _, _⟩) (v := ?_) rfl (by kernel_rfl) (fun _ _ _ h => h) (by assumption) (by rfl) (fun w hSw => ?_) ?_; rotate_left; (focus (first | (go_simp; done) | (go_simp; with_reducible rfl))); simp only [Act.put, List.setIfInBounds_toArray, List.set_cons_zero, List.set_cons_succ]
  refine alone (i := 4) (oi := ⟨some 9, _, _, _, _, _⟩) rfl (by kernel_rfl) (by rfl) (fun K hK => ?_); go_simp
  refine (cloneT_any _ _ _ _ _ (hsl.kept hS) h4 h5).mono ?_
  rintro e w1 ⟨g, c1, rfl, hown1, hk1⟩
  refine hK.out (fun wx => Keeps No w1 wx) _ _ (fun wx hx => hS.transNo (hk1.transNo hx)) (Keeps.refl _ _) ?_
  clear hK K
  have hS0 := hS.transNo hk1
  clear hS
  intro hS
  refine tk (i := 9) (oi := ⟨some 14, _, _, _, _, _⟩) (v := ?_) rfl (by kernel_rfl) (fun _ _ _ h => h) (by assumption) (by rfl) (fun w hSw => ?_) ?_; rotate_left; (focus (first | (go_simp; done) | (go_simp; with_reducible rfl))); simp only [Act.put, List.setIfInBounds_toArray, List.set_cons_zero, List.set_cons_succ]
  refine alone (i := 10) (oi := ⟨some 15, _, _, _, _, _⟩) rfl (by kernel_rfl) (by rfl) (fun K hK => ?_); go_simp
  refine hK.out (fun wx => Keeps No (w1.alloc (.cells #[.slice (some ⟨g, 0, none⟩) n c1, .int .i64 (r : Int)] 89)) wx) _ _ (fun wx hx => ((Keeps.refl No w1).alloc _).transNo hx) (Keeps.refl _ _) ?_
  clear hK K hS
  intro hS
  refine tk (i := 11) (oi := ⟨some 2, _, _, _, _, _⟩) (v := ?_) rfl (by kernel_rfl) (fun _ _ _ h => h) (by assumption) (by rfl) (fun w hSw => ?_) ?_; rotate_left; (focus (first | (go_simp; done) | (go_simp; with_reducible rfl))); simp only [Act.put, List.setIfInBounds_toArray, List.set_cons_zero, List.set_cons_succ]
  refine wpAnyH_done (by kernel_rfl) ?_ _
  go_wp2_with fail
  go_ret
  have hkA : Keeps No w1 (w1.alloc (.cells #[.slice (some ⟨g, 0, none⟩) n c1, .int .i64 (r : Int)] 89)) := (Keeps.refl No w1).alloc _
  have hlt := hown1.lt g rfl
  have hz := hk1.size
  have hz0 := hS0.size
  exact ⟨w1.heap.size, g, rfl, ⟨n, c1, h0, heap_alloc_new w1 _, hkA.own (own_base hown1) (fun _ _ => not_No _), by omega, h4, h5, h6⟩, hz0, hlt.1, by simp, by simp; omega, hS0.transNo hkA⟩

end Go.Proofs.Ytpceigiofbeihaa
