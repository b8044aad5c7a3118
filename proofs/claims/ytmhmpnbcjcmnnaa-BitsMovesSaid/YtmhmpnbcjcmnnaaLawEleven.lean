/- The walks of the statements on runs: first, RunsPuts, RunsGets, RunsShort. -/
import Derived.Test.YtmhmpnbcjcmnnaaRuns
import Derived.Test.YtmhmpnbcjcmnnaaRefRunsG
import Derived.Lib.SlBytesConst
import Derived.Test.YtmhmpnbcjcmnnaaRowKit
namespace Go.Proofs.Ytmhmpnbcjcmnnaa
open Go.RowKit
set_option linter.unusedSimpArgs false
set_option linter.unusedVariables false

theorem get_yes : rgetR [2, 14, 3, 1, 1] 4 = some [7, 7, 7, -1] := by decide
theorem get_no : rgetR [2, 14, 3, 14, 1] 4 = none := by decide
theorem put_yes : putRuns [7, 7, 7, -1] = [2, 14, 3, 1, 1] := (getRuns_sound (b := [2, 14, 3, 1, 1]) (n := 4) (l := [7, 7, 7, -1]) get_yes).1

theorem RGetPost.outOk {r : Option (List Int)} {l : List Int} {w w' : World} {e : Ending} (h : RGetPost r w e w') (hr : r = some l) : ∃ a c, e = .returned (.tuple #[.slice a l.length c, .bool true]) ∧ Sl w' a l.length c (l.map intV) ∧ Keeps No w w' := by
  subst hr
  obtain ⟨v, rfl, ho, hk⟩ := h
  obtain ⟨a, c, rfl, hs, _⟩ := Sl.ofOwn ho
  exact ⟨a, c, rfl, hs, hk⟩
theorem RGetPost.outNo {r : Option (List Int)} {w w' : World} {e : Ending} (h : RGetPost r w e w') (hr : r = none) : e = .returned (.tuple #[.slice none 0 0, .bool false]) ∧ Keeps No w w' := by
  subst hr; exact h

theorem wf_nat (n : Nat) (h : n ≤ 9223372036854775807) : (Lit.int .i64 (n : Int)).wf = true := by
  show (decide (IntKind.i64.min ≤ (n : Int)) && decide ((n : Int) ≤ IntKind.i64.max)) = true
  have e1 : IntKind.i64.min = -9223372036854775808 := by decide
  have e2 : IntKind.i64.max = 9223372036854775807 := by decide
  rw [e1, e2]
  simp
  omega
theorem wf_seven : ∀ x ∈ ([7, 7, 7, -1] : List Int), (Lit.int .i64 x).wf = true := by decide

set_option maxRecDepth 100000 in
set_option maxHeartbeats 1000000 in
theorem first11_any (w : World) :
    Calls Try.prog 14 #[] w fun e w' => e = .returned (.bool true) ∧ Keeps No w w' := by
  have kc := fun (w : World) (C : Array Value) (n c : Nat) => Lib.run_convert_bytes_const (P := Try.prog) w 24 5 C n c Try.underlying24 Try.underlying5
  go_enter Try.func14, Try.ntmps14
  go_wp2_with fail
  refine (rget_any _ 5 5 [2, 14, 3, 1, 1] 4 _ (Sl.litF _ #[.int .u8 2, .int .u8 14, .int .u8 3, .int .u8 1, .int .u8 1] 5 (5, 6) _ rfl 5 rfl (by decide)) (by omega) (by decide)).mono ?_
  intro e w1 h1
  obtain ⟨a1, c1, rfl, hs1, hk1⟩ := h1.outOk get_yes
  clear h1
  have hkw1 : Keeps No w w1 := hk1.ofAlloc
  go_wp2_with fail
  refine (rget_any _ 5 5 [2, 14, 3, 14, 1] 4 _ (Sl.litF _ #[.int .u8 2, .int .u8 14, .int .u8 3, .int .u8 14, .int .u8 1] 5 (5, 6) _ rfl 5 rfl (by decide)) (by omega) (by decide)).mono ?_
  intro e w2 h2
  obtain ⟨rfl, hk2⟩ := h2.outNo get_no
  clear h2
  have hkw2 : Keeps No w w2 := hkw1.transNo hk2.ofAlloc
  have hs2 := hs1.kept hk2.ofAlloc
  go_wp2_with fail
  refine (rput_any _ 4 4 [7, 7, 7, -1] _ (Sl.lit _ #[.int .i64 7, .int .i64 7, .int .i64 7, .int .i64 (-1)] 3 _ rfl 4 rfl (by decide)) wf_seven (by omega)).mono ?_
  rintro e w3 ⟨a3, m3, c3, rfl, hs3, -, hk3⟩
  rw [put_yes] at hs3
  have hkw3 : Keeps No w w3 := hkw2.transNo hk3.ofAlloc
  have hs2' := hs2.kept hk3.ofAlloc
  have hstr := hs3.str (P := Try.prog) 24 9 _ Try.underlying24 Try.underlying5 Try.underlying9
  go_wp2_with fail
  refine (rsame_any _ _ _ [7, 7, 7, -1] _ 4 4 [7, 7, 7, -1] _ (hs2'.kept ((Keeps.refl No w3).alloc _)) (Sl.lit _ #[.int .i64 7, .int .i64 7, .int .i64 7, .int .i64 (-1)] 3 _ rfl 4 rfl (by decide)) (by decide) (by decide)).mono ?_
  rintro e w4 ⟨rfl, hk4⟩
  go_wp2_with fail
  go_ret
  exact ⟨rfl, hkw3.transNo hk4.ofAlloc⟩

theorem rget_put (L : List Int) (n : Nat) (hn : L.length = n) (hw : ∀ x ∈ L, (Lit.int .i64 x).wf = true) : rgetR (putRuns L) (n : Int) = if n ≤ 256 then some L else none := by
  unfold rgetR
  by_cases h : n ≤ 256
  · rw [if_neg (by omega), if_pos h]
    exact getRuns_complete L n hn (by omega) (fun x hx => fold_lt (wf_i64_iff (hw x hx)))
  · rw [if_pos (by omega), if_neg h]

theorem putRuns_length (L : List Int) (hw : ∀ x ∈ L, (Lit.int .i64 x).wf = true) (hn : L.length ≤ 1000) : (putRuns L).length ≤ 10 + 20 * (runsOf L).length := by
  have hc := runsOf_length L
  have h1 := nat7_len64 (runsOf L).length (by omega)
  have hf : ∀ R : List (Int × Nat), (∀ r ∈ R, fold r.1 < 18446744073709551616 ∧ r.2 ≤ 1000) → (R.flatMap runB).length ≤ 20 * R.length := by
    intro R
    induction R with
    | nil => intro _; simp
    | cons r t ih =>
      intro h
      have := ih (fun x hx => h x (by simp [hx]))
      have h2 := h r (by simp)
      have h3 := nat7_len64 (fold r.1) h2.1
      have h4 := nat7_len64 r.2 (by omega)
      have h5 : (runB r).length = (nat7 (fold r.1)).length + (nat7 r.2).length := by simp [runB]
      rw [List.flatMap_cons, List.length_append, List.length_cons]
      omega
  have := hf (runsOf L) (fun r hr => ⟨fold_lt (wf_i64_iff (hw _ (runsOf_mem L r hr))), by
    have h : ∀ R : List (Int × Nat), ∀ r ∈ R, r.2 ≤ (expand R).length := by
      intro R
      induction R with
      | nil => intro r hr; simp at hr
      | cons s t ih =>
        intro r hr
        rw [expand_length_cons]
        rcases List.mem_cons.1 hr with rfl | hr
        · omega
        · have := ih r hr; omega
    have := h _ r hr
    rw [expand_runsOf] at this
    omega⟩)
  unfold putRuns
  rw [List.length_append]
  omega

set_option maxRecDepth 100000 in
set_option maxHeartbeats 2000000 in
theorem runsPuts_any (a : Option Addr) (n c : Nat) (L : List Int) (w : World) (hs : Sl w a n c (L.map intV)) (hw : ∀ x ∈ L, (Lit.int .i64 x).wf = true) (hn : n ≤ 140737488351232) :
    Calls Try.prog 3 #[.slice a n c] w fun e w' => e = .returned (.bool true) ∧ Keeps No w w' := by
  have hlen : L.length = n := by simpa using hs.len
  go_enter Try.func3, Try.ntmps3
  go_wp2_with fail
  refine (first11_any _).mono ?_
  rintro e w1 ⟨rfl, hk1⟩
  by_cases hbig : n ≤ 600
  case neg =>
    go_wp2_with fail
    go_ret
    exact ⟨rfl, hk1⟩
  have hs1 := hs.kept hk1
  have hpl := putRuns_length L hw (by omega)
  have hrl := runsOf_length L
  have hgp := rget_put L n hlen hw
  have Hgp := Lib.hid hgp
  have Hlen := Lib.hid hlen
  have Hw := Lib.hid hw
  clear hgp hlen hw
  go_wp2_with fail
  refine (rput_any a n c L _ hs1 Hw.out (by omega)).mono ?_
  rintro e w2 ⟨a2, m2, c2, rfl, hs2, -, hk2⟩
  have hm2 : (putRuns L).length = m2 := by simpa using hs2.len
  have hm2' : m2 ≤ 140737488355328 := by have := Hlen.out; omega
  have Hm2 := Lib.hid hm2
  have hkw2 := hk1.transNo hk2
  have hs1' := hs1.kept hk2
  clear hm2
  go_wp2_with fail
  refine (rget_any a2 m2 c2 (putRuns L) n _ hs2 hm2' (wf_nat n (by omega))).mono ?_
  intro e w3 h3
  by_cases h256 : n ≤ 256
  · obtain ⟨a3, c3, rfl, hs3, hk3⟩ := h3.outOk (l := L) (by rw [Hgp.out, if_pos h256])
    clear h3
    have hdd : decide ((n : Int) ≤ 256) = decide (n ≤ 256) := by simp; omega
    simp only [h256, decide_true, decide_false] at hdd
    have hs2' := hs2.kept hk3
    have hs1'' := hs1'.kept hk3
    have hstr : ∀ wx, Keeps No w3 wx → (convert 24 9 (.slice a2 m2 c2)).run Try.prog wx = .ok (.string ⟨(putRuns L).toArray⟩) wx :=
      fun wx hx => (hs2'.kept hx).str (P := Try.prog) 24 9 5 Try.underlying24 Try.underlying5 Try.underlying9
    go_wp2_with fail
    refine wp_region_held_drew (S := fun wx => Keeps No w3 wx) (by kernel_rfl) ((Keeps.refl _ _).drew) (fun hS => ?_)
    refine tk (i := 0) (oi := ⟨some 20, _, _, _, _, _⟩) (v := ?_) rfl (by kernel_rfl) (fun _ _ _ h => h) (by assumption) (by rfl) (fun w hSw => ?_) ?_; rotate_left; (focus (first | (go_simp; done) | (go_simp; with_reducible rfl))); simp only [Act.put, List.setIfInBounds_toArray, List.set_cons_zero, List.set_cons_succ]
    refine tk (i := 1) (oi := ⟨some 21, _, _, _, _, _⟩) (v := ?_) rfl (by kernel_rfl) (fun _ _ _ h => h) (by assumption) (by rfl) (fun w hSw => ?_) ?_; rotate_left; (focus (first | (go_simp; done) | (go_simp; with_reducible rfl))); simp only [Act.put, List.setIfInBounds_toArray, List.set_cons_zero, List.set_cons_succ]
    refine tk (i := 2) (oi := ⟨some 22, _, _, _, _, _⟩) (v := ?_) rfl (by kernel_rfl) (fun _ _ _ h => h) (by assumption) (by rfl) (fun w hSw => ?_) ?_; rotate_left; (focus (first | (go_simp; done) | (go_simp; with_reducible rfl))); simp only [Act.put, List.setIfInBounds_toArray, List.set_cons_zero, List.set_cons_succ]
    refine alone (i := 3) (oi := ⟨some 23, _, _, _, _, _⟩) rfl (by kernel_rfl) (by rfl) (fun K hK => ?_); go_simp
    refine (refRPut_any a n c L _ (hs1''.kept hS) Hw.out (by omega)).mono ?_
    rintro e w4 ⟨a4, m4, c4, rfl, hs4, -, hk4⟩
    have hstr4 : ∀ wx, Keeps No w4 wx → (convert 24 9 (.slice a4 m4 c4)).run Try.prog wx = .ok (.string ⟨(putRuns L).toArray⟩) wx :=
      fun wx hx => (hs4.kept hx).str (P := Try.prog) 24 9 5 Try.underlying24 Try.underlying5 Try.underlying9
    have hk34 := hS.transNo hk4
    refine hK.out (fun wx => Keeps No w4 wx) _ _ (fun _ hx => hS.transNo (Keeps.transNo (hk4) hx)) (Keeps.refl _ _) ?_
    clear hK K hS
    intro hS
    refine tk (i := 4) (oi := ⟨some 24, _, _, _, _, _⟩) (v := ?_) rfl (by kernel_rfl) (fun _ _ _ h => h) (by assumption) (by rfl) (fun w hSw => ?_) ?_; rotate_left; (focus (first | (go_simp; done) | (go_simp; with_reducible rfl))); simp only [Act.put, List.setIfInBounds_toArray, List.set_cons_zero, List.set_cons_succ]
    refine tk (i := 5) (oi := ⟨some 25, _, _, _, _, _⟩) (v := ?_) rfl (by kernel_rfl) (fun _ _ _ h => h) (by assumption) (by rfl) (fun w hSw => ?_) ?_; rotate_left; (focus (first | (go_simp; done) | (go_simp; with_reducible rfl))); simp only [Act.put, List.setIfInBounds_toArray, List.set_cons_zero, List.set_cons_succ]
    refine tk (i := 6) (oi := ⟨some 26, _, _, _, _, _⟩) (v := ?_) rfl (by kernel_rfl) (fun _ _ _ h => h) (by assumption) (by rfl) (fun w hSw => ?_) ?_; rotate_left; (focus (first | (go_simp; done) | (go_simp; with_reducible rfl))); simp only [Act.put, List.setIfInBounds_toArray, List.set_cons_zero, List.set_cons_succ]
    refine tk (i := 7) (oi := ⟨some 27, _, _, _, _, _⟩) (v := ?_) rfl (by kernel_rfl) (fun _ _ _ h => h) (by assumption) (by rfl) (fun w hSw => ?_) ?_; rotate_left; (focus (first | (go_simp; done) | (go_simp; with_reducible rfl))); simp only [Act.put, List.setIfInBounds_toArray, List.set_cons_zero, List.set_cons_succ]
    refine tk (i := 8) (oi := ⟨some 28, _, _, _, _, _⟩) (v := ?_) rfl (by kernel_rfl) (fun _ _ _ h => h) (by assumption) (by rfl) (fun w hSw => ?_) ?_; rotate_left; (focus (first | (go_simp; done) | (go_simp; with_reducible rfl))); simp only [Act.put, List.setIfInBounds_toArray, List.set_cons_zero, List.set_cons_succ]
    refine tk (i := 9) (oi := ⟨some 29, _, _, _, _, _⟩) (v := ?_) rfl (by kernel_rfl) (fun _ _ _ h => h) (by assumption) (by rfl) (fun w hSw => ?_) ?_; rotate_left; (focus (first | (go_simp; done) | (go_simp; with_reducible rfl))); simp only [Act.put, List.setIfInBounds_toArray, List.set_cons_zero, List.set_cons_succ]
    refine tk (i := 10) (oi := ⟨some 30, _, _, _, _, _⟩) (v := ?_) rfl (by kernel_rfl) (fun _ _ _ h => h) (by assumption) (by rfl) (fun w hSw => ?_) ?_; rotate_left; (focus (first | (go_simp; done) | (go_simp; with_reducible rfl))); simp only [Act.put, List.setIfInBounds_toArray, List.set_cons_zero, List.set_cons_succ]
    refine tk (i := 11) (oi := ⟨some 31, _, _, _, _, _⟩) (v := ?_) rfl (by kernel_rfl) (fun _ _ _ h => h) (by assumption) (by rfl) (fun w hSw => ?_) ?_; rotate_left; (focus (first | (go_simp; done) | (go_simp; with_reducible rfl))); simp only [Act.put, List.setIfInBounds_toArray, List.set_cons_zero, List.set_cons_succ]
    refine tk (i := 12) (oi := ⟨some 32, _, _, _, _, _⟩) (v := ?_) rfl (by kernel_rfl) (fun _ _ _ h => h) (by assumption) (by rfl) (fun w hSw => ?_) ?_; rotate_left; (focus (first | (go_simp; done) | (go_simp; with_reducible rfl))); simp only [Act.put, List.setIfInBounds_toArray, List.set_cons_zero, List.set_cons_succ]
    refine tk (i := 13) (oi := ⟨some 33, _, _, _, _, _⟩) (v := ?_) rfl (by kernel_rfl) (fun _ _ _ h => h) (by assumption) (by rfl) (fun w hSw => ?_) ?_; rotate_left; (focus (first | (go_simp; done) | (go_simp; with_reducible rfl))); simp only [Act.put, List.setIfInBounds_toArray, List.set_cons_zero, List.set_cons_succ]
    refine tk (i := 14) (oi := ⟨some 34, _, _, _, _, _⟩) (v := ?_) rfl (by kernel_rfl) (fun _ _ _ h => h) (by assumption) (by rfl) (fun w hSw => ?_) ?_; rotate_left; (focus (first | (go_simp; done) | (go_simp; with_reducible rfl))); simp only [Act.put, List.setIfInBounds_toArray, List.set_cons_zero, List.set_cons_succ]
    refine tk (i := 15) (oi := ⟨some 35, _, _, _, _, _⟩) (v := ?_) rfl (by kernel_rfl) (fun _ _ _ h => h) (by assumption) (by rfl) (fun w hSw => ?_) ?_; rotate_left; (focus (first | (go_simp; done) | (go_simp; with_reducible rfl))); simp only [Act.put, List.setIfInBounds_toArray, List.set_cons_zero, List.set_cons_succ]
    refine tk (i := 16) (oi := ⟨some 36, _, _, _, _, _⟩) (v := ?_) rfl (by kernel_rfl) (fun _ _ _ h => h) (by assumption) (by rfl) (fun w hSw => ?_) ?_; rotate_left; (focus (first | (go_simp; done) | (go_simp; with_reducible rfl))); simp only [Act.put, List.setIfInBounds_toArray, List.set_cons_zero, List.set_cons_succ]
    refine tk (i := 17) (oi := ⟨some 37, _, _, _, _, _⟩) (v := ?_) rfl (by kernel_rfl) (fun _ _ _ h => h) (by assumption) (by rfl) (fun w hSw => ?_) ?_; rotate_left; (focus (first | (go_simp; done) | (go_simp; with_reducible rfl))); simp only [Act.put, List.setIfInBounds_toArray, List.set_cons_zero, List.set_cons_succ]
    refine tk (i := 18) (oi := ⟨some 38, _, _, _, _, _⟩) (v := ?_) rfl (by kernel_rfl) (fun _ _ _ h => h) (by assumption) (by rfl) (fun w hSw => ?_) ?_; rotate_left; (focus (first | (go_simp; done) | (go_simp; with_reducible rfl))); simp only [Act.put, List.setIfInBounds_toArray, List.set_cons_zero, List.set_cons_succ]
    refine alone (i := 19) (oi := ⟨some 39, _, _, _, _, _⟩) rfl (by kernel_rfl) (by rfl) (fun K hK => ?_); go_simp
    refine (rsame_any _ _ _ L a n c L _ (hs3.kept (hk34.transNo hS)) (hs1''.kept (hk34.transNo hS)) (by rw [Hlen.out]; omega) (by omega)).mono ?_
    rintro e w5 ⟨rfl, hk5⟩
    have hk35 := (hk34.transNo hS).transNo hk5
    refine hK.out (fun wx => Keeps No w5 wx) _ _ (fun _ hx => hS.transNo (Keeps.transNo (hk5) hx)) (Keeps.refl _ _) ?_
    clear hK K hS
    intro hS
    refine tk (i := 20) (oi := ⟨some 40, _, _, _, _, _⟩) (v := ?_) rfl (by kernel_rfl) (fun _ _ _ h => h) (by assumption) (by rfl) (fun w hSw => ?_) ?_; rotate_left; (focus (first | (go_simp; done) | (go_simp; with_reducible rfl))); simp only [Act.put, List.setIfInBounds_toArray, List.set_cons_zero, List.set_cons_succ]
    refine tk (i := 21) (oi := ⟨some 41, _, _, _, _, _⟩) (v := ?_) rfl (by kernel_rfl) (fun _ _ _ h => h) (by assumption) (by rfl) (fun w hSw => ?_) ?_; rotate_left; (focus (first | (go_simp; done) | (go_simp; with_reducible rfl))); simp only [Act.put, List.setIfInBounds_toArray, List.set_cons_zero, List.set_cons_succ]
    refine tk (i := 22) (oi := ⟨some 2, _, _, _, _, _⟩) (v := ?_) rfl (by kernel_rfl) (fun _ _ _ h => h) (by assumption) (by rfl) (fun w hSw => ?_) ?_; rotate_left; (focus (first | (go_simp; done) | (go_simp; with_reducible rfl))); simp only [Act.put, List.setIfInBounds_toArray, List.set_cons_zero, List.set_cons_succ]
    refine wpAnyH_done (by kernel_rfl) ?_ _
    go_wp2_with fail
    go_ret
    exact ⟨ret_bool (by simp), (hkw2.transNo hk3).transNo hk35⟩
  · obtain ⟨rfl, hk3⟩ := h3.outNo (by rw [Hgp.out, if_neg h256])
    clear h3
    have hdd : decide ((n : Int) ≤ 256) = decide (n ≤ 256) := by simp; omega
    simp only [h256, decide_true, decide_false] at hdd
    have hs2' := hs2.kept hk3
    have hs1'' := hs1'.kept hk3
    have hstr : ∀ wx, Keeps No w3 wx → (convert 24 9 (.slice a2 m2 c2)).run Try.prog wx = .ok (.string ⟨(putRuns L).toArray⟩) wx :=
      fun wx hx => (hs2'.kept hx).str (P := Try.prog) 24 9 5 Try.underlying24 Try.underlying5 Try.underlying9
    go_wp2_with fail
    refine wp_region_held_drew (S := fun wx => Keeps No w3 wx) (by kernel_rfl) ((Keeps.refl _ _).drew) (fun hS => ?_)
    refine tk (i := 0) (oi := ⟨some 20, _, _, _, _, _⟩) (v := ?_) rfl (by kernel_rfl) (fun _ _ _ h => h) (by assumption) (by rfl) (fun w hSw => ?_) ?_; rotate_left; (focus (first | (go_simp; done) | (go_simp; with_reducible rfl))); simp only [Act.put, List.setIfInBounds_toArray, List.set_cons_zero, List.set_cons_succ]
    refine tk (i := 1) (oi := ⟨some 21, _, _, _, _, _⟩) (v := ?_) rfl (by kernel_rfl) (fun _ _ _ h => h) (by assumption) (by rfl) (fun w hSw => ?_) ?_; rotate_left; (focus (first | (go_simp; done) | (go_simp; with_reducible rfl))); simp only [Act.put, List.setIfInBounds_toArray, List.set_cons_zero, List.set_cons_succ]
    refine tk (i := 2) (oi := ⟨some 22, _, _, _, _, _⟩) (v := ?_) rfl (by kernel_rfl) (fun _ _ _ h => h) (by assumption) (by rfl) (fun w hSw => ?_) ?_; rotate_left; (focus (first | (go_simp; done) | (go_simp; with_reducible rfl))); simp only [Act.put, List.setIfInBounds_toArray, List.set_cons_zero, List.set_cons_succ]
    refine alone (i := 3) (oi := ⟨some 23, _, _, _, _, _⟩) rfl (by kernel_rfl) (by rfl) (fun K hK => ?_); go_simp
    refine (refRPut_any a n c L _ (hs1''.kept hS) Hw.out (by omega)).mono ?_
    rintro e w4 ⟨a4, m4, c4, rfl, hs4, -, hk4⟩
    have hstr4 : ∀ wx, Keeps No w4 wx → (convert 24 9 (.slice a4 m4 c4)).run Try.prog wx = .ok (.string ⟨(putRuns L).toArray⟩) wx :=
      fun wx hx => (hs4.kept hx).str (P := Try.prog) 24 9 5 Try.underlying24 Try.underlying5 Try.underlying9
    have hk34 := hS.transNo hk4
    refine hK.out (fun wx => Keeps No w4 wx) _ _ (fun _ hx => hS.transNo (Keeps.transNo (hk4) hx)) (Keeps.refl _ _) ?_
    clear hK K hS
    intro hS
    refine tk (i := 4) (oi := ⟨some 24, _, _, _, _, _⟩) (v := ?_) rfl (by kernel_rfl) (fun _ _ _ h => h) (by assumption) (by rfl) (fun w hSw => ?_) ?_; rotate_left; (focus (first | (go_simp; done) | (go_simp; with_reducible rfl))); simp only [Act.put, List.setIfInBounds_toArray, List.set_cons_zero, List.set_cons_succ]
    refine tk (i := 5) (oi := ⟨some 25, _, _, _, _, _⟩) (v := ?_) rfl (by kernel_rfl) (fun _ _ _ h => h) (by assumption) (by rfl) (fun w hSw => ?_) ?_; rotate_left; (focus (first | (go_simp; done) | (go_simp; with_reducible rfl))); simp only [Act.put, List.setIfInBounds_toArray, List.set_cons_zero, List.set_cons_succ]
    refine tk (i := 6) (oi := ⟨some 26, _, _, _, _, _⟩) (v := ?_) rfl (by kernel_rfl) (fun _ _ _ h => h) (by assumption) (by rfl) (fun w hSw => ?_) ?_; rotate_left; (focus (first | (go_simp; done) | (go_simp; with_reducible rfl))); simp only [Act.put, List.setIfInBounds_toArray, List.set_cons_zero, List.set_cons_succ]
    refine tk (i := 7) (oi := ⟨some 27, _, _, _, _, _⟩) (v := ?_) rfl (by kernel_rfl) (fun _ _ _ h => h) (by assumption) (by rfl) (fun w hSw => ?_) ?_; rotate_left; (focus (first | (go_simp; done) | (go_simp; with_reducible rfl))); simp only [Act.put, List.setIfInBounds_toArray, List.set_cons_zero, List.set_cons_succ]
    refine tk (i := 8) (oi := ⟨some 28, _, _, _, _, _⟩) (v := ?_) rfl (by kernel_rfl) (fun _ _ _ h => h) (by assumption) (by rfl) (fun w hSw => ?_) ?_; rotate_left; (focus (first | (go_simp; done) | (go_simp; with_reducible rfl))); simp only [Act.put, List.setIfInBounds_toArray, List.set_cons_zero, List.set_cons_succ]
    refine tk (i := 9) (oi := ⟨some 29, _, _, _, _, _⟩) (v := ?_) rfl (by kernel_rfl) (fun _ _ _ h => h) (by assumption) (by rfl) (fun w hSw => ?_) ?_; rotate_left; (focus (first | (go_simp; done) | (go_simp; with_reducible rfl))); simp only [Act.put, List.setIfInBounds_toArray, List.set_cons_zero, List.set_cons_succ]
    refine tk (i := 10) (oi := ⟨some 30, _, _, _, _, _⟩) (v := ?_) rfl (by kernel_rfl) (fun _ _ _ h => h) (by assumption) (by rfl) (fun w hSw => ?_) ?_; rotate_left; (focus (first | (go_simp; done) | (go_simp; with_reducible rfl))); simp only [Act.put, List.setIfInBounds_toArray, List.set_cons_zero, List.set_cons_succ]
    refine tk (i := 11) (oi := ⟨some 31, _, _, _, _, _⟩) (v := ?_) rfl (by kernel_rfl) (fun _ _ _ h => h) (by assumption) (by rfl) (fun w hSw => ?_) ?_; rotate_left; (focus (first | (go_simp; done) | (go_simp; with_reducible rfl))); simp only [Act.put, List.setIfInBounds_toArray, List.set_cons_zero, List.set_cons_succ]
    refine tk (i := 12) (oi := ⟨some 32, _, _, _, _, _⟩) (v := ?_) rfl (by kernel_rfl) (fun _ _ _ h => h) (by assumption) (by rfl) (fun w hSw => ?_) ?_; rotate_left; (focus (first | (go_simp; done) | (go_simp; with_reducible rfl))); simp only [Act.put, List.setIfInBounds_toArray, List.set_cons_zero, List.set_cons_succ]
    refine tk (i := 13) (oi := ⟨some 33, _, _, _, _, _⟩) (v := ?_) rfl (by kernel_rfl) (fun _ _ _ h => h) (by assumption) (by rfl) (fun w hSw => ?_) ?_; rotate_left; (focus (first | (go_simp; done) | (go_simp; with_reducible rfl))); simp only [Act.put, List.setIfInBounds_toArray, List.set_cons_zero, List.set_cons_succ]
    refine tk (i := 14) (oi := ⟨some 34, _, _, _, _, _⟩) (v := ?_) rfl (by kernel_rfl) (fun _ _ _ h => h) (by assumption) (by rfl) (fun w hSw => ?_) ?_; rotate_left; (focus (first | (go_simp; done) | (go_simp; with_reducible rfl))); simp only [Act.put, List.setIfInBounds_toArray, List.set_cons_zero, List.set_cons_succ]
    refine tk (i := 15) (oi := ⟨some 35, _, _, _, _, _⟩) (v := ?_) rfl (by kernel_rfl) (fun _ _ _ h => h) (by assumption) (by rfl) (fun w hSw => ?_) ?_; rotate_left; (focus (first | (go_simp; done) | (go_simp; with_reducible rfl))); simp only [Act.put, List.setIfInBounds_toArray, List.set_cons_zero, List.set_cons_succ]
    refine tk (i := 16) (oi := ⟨some 36, _, _, _, _, _⟩) (v := ?_) rfl (by kernel_rfl) (fun _ _ _ h => h) (by assumption) (by rfl) (fun w hSw => ?_) ?_; rotate_left; (focus (first | (go_simp; done) | (go_simp; with_reducible rfl))); simp only [Act.put, List.setIfInBounds_toArray, List.set_cons_zero, List.set_cons_succ]
    refine tkNot (i := 17) (oi := ⟨some 37, _, _, _, _, _⟩) rfl (by kernel_rfl) (fun _ _ _ h => h) (by assumption) (by rfl) ?_; simp only [Act.put, List.setIfInBounds_toArray, List.set_cons_zero, List.set_cons_succ]
    refine tkNot (i := 18) (oi := ⟨some 38, _, _, _, _, _⟩) rfl (by kernel_rfl) (fun _ _ _ h => h) (by assumption) (by rfl) ?_; simp only [Act.put, List.setIfInBounds_toArray, List.set_cons_zero, List.set_cons_succ]
    refine tkNot (i := 19) (oi := ⟨some 39, _, _, _, _, _⟩) rfl (by kernel_rfl) (fun _ _ _ h => h) (by assumption) (by rfl) ?_; simp only [Act.put, List.setIfInBounds_toArray, List.set_cons_zero, List.set_cons_succ]
    refine tk (i := 20) (oi := ⟨some 40, _, _, _, _, _⟩) (v := ?_) rfl (by kernel_rfl) (fun _ _ _ h => h) (by assumption) (by rfl) (fun w hSw => ?_) ?_; rotate_left; (focus (first | (go_simp; done) | (go_simp; with_reducible rfl))); simp only [Act.put, List.setIfInBounds_toArray, List.set_cons_zero, List.set_cons_succ]
    refine tk (i := 21) (oi := ⟨some 41, _, _, _, _, _⟩) (v := ?_) rfl (by kernel_rfl) (fun _ _ _ h => h) (by assumption) (by rfl) (fun w hSw => ?_) ?_; rotate_left; (focus (first | (go_simp; done) | (go_simp; with_reducible rfl))); simp only [Act.put, List.setIfInBounds_toArray, List.set_cons_zero, List.set_cons_succ]
    refine tk (i := 22) (oi := ⟨some 2, _, _, _, _, _⟩) (v := ?_) rfl (by kernel_rfl) (fun _ _ _ h => h) (by assumption) (by rfl) (fun w hSw => ?_) ?_; rotate_left; (focus (first | (go_simp; done) | (go_simp; with_reducible rfl))); simp only [Act.put, List.setIfInBounds_toArray, List.set_cons_zero, List.set_cons_succ]
    refine wpAnyH_done (by kernel_rfl) ?_ _
    go_wp2_with fail
    go_ret
    exact ⟨ret_bool (by simp), (hkw2.transNo hk3).transNo hk34⟩

set_option maxRecDepth 100000 in
set_option maxHeartbeats 2000000 in
theorem runsGets_any (a : Option Addr) (m c : Nat) (b : List UInt8) (n : Int) (w : World) (hs : Sl w a m c (b.map byteV)) (hm : m ≤ 140737488351232) (hn : (Lit.int .i64 n).wf = true) :
    Calls Try.prog 4 #[.slice a m c, .int .i64 n] w fun e w' => e = .returned (.bool true) ∧ Keeps No w w' := by
  go_enter Try.func4, Try.ntmps4
  go_wp2_with fail
  refine (first11_any _).mono ?_
  rintro e w1 ⟨rfl, hk1⟩
  by_cases hbig : m ≤ 600
  case neg =>
    go_wp2_with fail
    go_ret
    exact ⟨rfl, hk1⟩
  have hs1 := hs.kept hk1
  go_wp2_with fail
  refine (rget_any a m c b n _ hs1 (by omega) hn).mono ?_
  intro e w2 h2
  cases hr : rgetR b n with
  | none =>
    obtain ⟨rfl, hk2⟩ := h2.outNo hr
    clear h2
    have hs2 := hs1.kept hk2
    go_wp2_with fail
    refine (refRGet_any a m c b n _ hs2 (by omega) hn).mono ?_
    intro e w3 h3
    obtain ⟨rfl, hk3⟩ := h3.outNo hr
    clear h3
    go_wp2_with fail
    refine (rsame_any _ _ _ [] _ _ _ [] _ (Sl.none _) (Sl.none _) (by omega) (by omega)).mono ?_
    rintro e w4 ⟨rfl, hk4⟩
    go_wp2_with fail
    go_ret
    exact ⟨rfl, ((hk1.transNo hk2).transNo hk3).transNo hk4⟩
  | some l =>
    have hl : l.length ≤ 256 := by
      unfold rgetR at hr
      split at hr
      · cases hr
      · have := (getRuns_sound hr).2; omega
    obtain ⟨a2, c2, rfl, hsl2, hk2⟩ := h2.outOk hr
    clear h2
    have hs2 := hs1.kept hk2
    go_wp2_with fail
    refine (refRGet_any a m c b n _ hs2 (by omega) hn).mono ?_
    intro e w3 h3
    obtain ⟨a3, c3, rfl, hsl3, hk3⟩ := h3.outOk hr
    clear h3
    have hsl2' := hsl2.kept hk3
    go_wp2_with fail
    refine (rsame_any _ _ _ l _ _ _ l _ hsl2' hsl3 (by omega) (by omega)).mono ?_
    rintro e w4 ⟨rfl, hk4⟩
    go_wp2_with fail
    go_ret
    exact ⟨ret_bool (by simp), ((hk1.transNo hk2).transNo hk3).transNo hk4⟩

theorem runs_le (l : List Int) : 2 * (runsOf l).length + 1 ≤ (putRuns l).length := by
  have h1 := (nat7_len (runsOf l).length (runsOf l).length (Nat.lt_of_lt_of_le (Nat.lt_pow_self (by decide)) (Nat.pow_le_pow_right (by decide) (by omega)))).2
  have hp : ∀ v, 0 < (nat7 v).length := fun v => (nat7_len v v (Nat.lt_of_lt_of_le (Nat.lt_pow_self (by decide)) (Nat.pow_le_pow_right (by decide) (by omega)))).2
  have hf : ∀ R : List (Int × Nat), 2 * R.length ≤ (R.flatMap runB).length := by
    intro R
    induction R with
    | nil => simp
    | cons r t ih =>
      have h3 := hp (fold r.1)
      have h4 := hp r.2
      have h5 : (runB r).length = (nat7 (fold r.1)).length + (nat7 r.2).length := by simp [runB]
      rw [List.flatMap_cons, List.length_append, List.length_cons]
      omega
  have := hf (runsOf l)
  unfold putRuns
  rw [List.length_append]
  omega
theorem addRun_len (R : List (Int × Nat)) (v : Int) : R.length ≤ (addRun R v).length ∧ ((∀ y, R.getLast? = some y → y.1 ≠ v) → (addRun R v).length = R.length + 1) := by
  constructor
  · unfold addRun
    split
    · rename_i h
      have : R = [] := by simpa using h
      subst this
      simp
    · rename_i u k h
      obtain ⟨ys, rfl⟩ := List.getLast?_eq_some_iff.1 h
      split <;> simp
  · intro h
    rw [addRun_other R v h]
    simp

theorem runs_row (v : Int) (k : Nat) : runsOf (List.replicate (k + 1) v) = [(v, k + 1)] := by
  have := runsOf_rep [] v (k + 1) (by omega) (fun y hy => by simp [runsOf] at hy)
  simpa [runsOf] using this
theorem row_len (v : Int) (hv : (Lit.int .i64 v).wf = true) (k : Nat) (hk : k < 256) : (putRuns (List.replicate (k + 1) v)).length ≤ 13 := by
  have h1 := nat7_len64 (fold v) (fold_lt (wf_i64_iff hv))
  have h2 := (nat7_len 1 (k + 1) (by have : (128 : Nat) ^ 2 = 16384 := by decide
                                     omega)).1
  have h3 : (nat7 1).length = 1 := by rw [nat7_low (by decide)]; rfl
  unfold putRuns
  rw [runs_row]
  simp [runB]
  omega

set_option maxRecDepth 100000 in
set_option maxHeartbeats 4000000 in
theorem runsShort_any (v : Int) (k : Nat) (a : Option Addr) (n c : Nat) (L : List Int) (w : World) (hv : (Lit.int .i64 v).wf = true) (hk : k < 256) (hs : Sl w a n c (L.map intV)) (hw : ∀ x ∈ L, (Lit.int .i64 x).wf = true) (hn : n ≤ 140737488351232) :
    Calls Try.prog 5 #[.int .i64 v, .int .u8 (k : Int), .slice a n c] w fun e w' => e = .returned (.bool true) ∧ Keeps No w w' := by
  have hlen : L.length = n := by simpa using hs.len
  have Hlen := Lib.hid hlen
  have Hw := Lib.hid hw
  clear hlen hw
  go_enter Try.func5, Try.ntmps5
  go_wp2_with fail
  refine (first11_any _).mono ?_
  rintro e w1 ⟨rfl, hk1⟩
  by_cases hbig : n ≤ 250
  case neg =>
    go_wp2_with fail
    go_ret
    exact ⟨rfl, hk1⟩
  have hs1 := hs.kept hk1
  go_wp2_with fail
  go_loopg [7, 22] (k + 1) (fun q v7 v22 wr => ∃ (s : Nat) (u : Value), v7 = u ∧ v22 = .int .i64 (s : Int) ∧ q = k + 1 - s ∧ s ≤ k + 1 ∧ wr.ownsRow w1.heap.size 3 1 u (List.replicate s v).length ((List.replicate s v).map intV) ∧ Keeps No w1 wr)
  case atStart => exact ⟨0, _, rfl, rfl, rfl, Nat.zero_le _, World.ownsRow_nil _ _ _ _, Keeps.refl _ _⟩
  case round =>
    obtain ⟨s, u, rfl, rfl, hq, hsk, hown, hkr⟩ := hrel
    have Hq := Lib.hid hq
    clear hq
    have hzr := hkr.size
    have hrl : (List.replicate s v).length = s := by simp
    by_cases hlt : s < k + 1
    · go_wp2_with (at_builtin; go_loud (refine app_own rfl _ _ 22 rfl w1.heap.size 3 (.int .i64 0) 8 Try.underlying22 int_info rfl (by decide) _ (List.replicate s v).length ((List.replicate s v).map intV) rfl (hown.alloc _) _ 1 1 [.int .i64 v] rfl (Sl.one _ _ _) ?h1 ?hb ?hB ?_))
      case h1 => first | rfl | (intro u hu; simp at hu; subst hu; rfl)
      case hb => omega
      case hB => first | omega | (simp; omega)
      intro v6 w6 hown6 hg6
      go_wp2_with fail
      go_roundg (k + 1 - (s + 1))
      case rel =>
        refine ⟨s + 1, v6, rfl, by go_num, rfl, by omega, ?_, (hkr.alloc _).grown hg6 (fun k hk hlt => absurd hlt (by have := (hown.lt k hk).1; omega))⟩
        rw [List.replicate_succ', List.length_append, List.map_append]
        simpa [intV] using hown6
      case measure => have := Hq.out; omega
    · obtain rfl : s = k + 1 := by omega
      obtain ⟨X, hX⟩ : ∃ X, X = List.replicate (k + 1) v := ⟨_, rfl⟩
      have hXl : X.length = k + 1 := by rw [hX]; simp
      rw [← hX] at hown
      have hrow : (putRuns X).length ≤ 13 := by rw [hX]; exact row_len v hv k hk
      have hXw : ∀ x ∈ X, (Lit.int .i64 x).wf = true := fun x hx => by rw [hX] at hx; rw [(List.mem_replicate.1 hx).2]; exact hv
      have hgp := rget_put X (k + 1) hXl hXw
      rw [if_pos (by omega)] at hgp
      obtain ⟨a3, c3, rfl, hs3, -⟩ := Sl.ofOwn hown
      have hs1r := hs1.kept hkr
      have Hgp := Lib.hid hgp
      have HXw := Lib.hid hXw
      have HX := Lib.hid hX
      have HXl := Lib.hid hXl
      clear hgp hXw hX hrl hown
      rw [hXl] at hs3 ⊢
      clear hXl
      go_wp2_with fail
      refine (rput_any a3 (k + 1) c3 X _ hs3 HXw.out (by omega)).mono ?_
      rintro e w2 ⟨a2, m2, c2, rfl, hs2, -, hk2⟩
      have hm2 : (putRuns X).length = m2 := by simpa using hs2.len
      have hm2' : m2 ≤ 13 := by omega
      have hs3' := hs3.kept hk2
      have hs1' := hs1r.kept hk2
      have hk02 : Keeps No w w2 := (hk1.transNo hkr).transNo hk2
      clear hm2 hrow
      go_wp2_with fail
      go_loopg [9, 33] n (fun q v9 v33 wr => ∃ (ch j : Nat), v9 = .int .i64 (ch : Int) ∧ v33 = .int .i64 (j : Int) ∧ j ≤ n ∧ q = n - j ∧ ch ≤ j ∧ ch ≤ (runsOf (L.take j)).length ∧ Keeps No w2 wr)
      case atStart => exact ⟨0, 0, rfl, rfl, Nat.zero_le _, rfl, Nat.le_refl _, Nat.zero_le _, Keeps.refl _ _⟩
      case round =>
        obtain ⟨ch, j, rfl, rfl, hj, hq, hcj, hch, hkr⟩ := hrel
        have Hqj := Lib.hid hq
        have Hch := Lib.hid hch
        clear hq hch
        by_cases hjn : j < n
        · have hjL : j < L.length := by rw [Hlen.out]; exact hjn
          have hstep : runsOf (L.take (j + 1)) = addRun (runsOf (L.take j)) L[j] := by rw [List.take_succ_eq_append_getElem hjL, runsOf_snoc]
          have Hstep := Lib.hid hstep
          clear hstep
          rcases Nat.eq_zero_or_pos j with h0 | h0
          · subst h0
            go_wp2_with fail
            refine wp_region_held_drew (S := fun wx => True) (by kernel_rfl) (trivial) (fun hS => ?_)
            refine tk (i := 0) (oi := ⟨some 36, _, _, _, _, _⟩) (v := ?_) rfl (by kernel_rfl) (fun _ _ _ h => h) (by assumption) (by rfl) (fun w hSw => ?_) ?_; rotate_left; (focus (first | (go_simp; done) | (go_simp; with_reducible rfl))); simp only [Act.put, List.setIfInBounds_toArray, List.set_cons_zero, List.set_cons_succ]
            refine tk (i := 1) (oi := ⟨some 37, _, _, _, _, _⟩) (v := ?_) rfl (by kernel_rfl) (fun _ _ _ h => h) (by assumption) (by rfl) (fun w hSw => ?_) ?_; rotate_left; (focus (first | (go_simp; done) | (go_simp; with_reducible rfl))); simp only [Act.put, List.setIfInBounds_toArray, List.set_cons_zero, List.set_cons_succ]
            refine tk (i := 2) (oi := ⟨some 38, _, _, _, _, _⟩) (v := ?_) rfl (by kernel_rfl) (fun _ _ _ h => h) (by assumption) (by rfl) (fun w hSw => ?_) ?_; rotate_left; (focus (first | (go_simp; done) | (go_simp; with_reducible rfl))); simp only [Act.put, List.setIfInBounds_toArray, List.set_cons_zero, List.set_cons_succ]
            refine tkNot (i := 3) (oi := ⟨some 39, _, _, _, _, _⟩) rfl (by kernel_rfl) (fun _ _ _ h => h) (by assumption) (by rfl) ?_; simp only [Act.put, List.setIfInBounds_toArray, List.set_cons_zero, List.set_cons_succ]
            refine tkNot (i := 4) (oi := ⟨some 40, _, _, _, _, _⟩) rfl (by kernel_rfl) (fun _ _ _ h => h) (by assumption) (by rfl) ?_; simp only [Act.put, List.setIfInBounds_toArray, List.set_cons_zero, List.set_cons_succ]
            refine tkNot (i := 5) (oi := ⟨some 41, _, _, _, _, _⟩) rfl (by kernel_rfl) (fun _ _ _ h => h) (by assumption) (by rfl) ?_; simp only [Act.put, List.setIfInBounds_toArray, List.set_cons_zero, List.set_cons_succ]
            refine tkNot (i := 6) (oi := ⟨some 42, _, _, _, _, _⟩) rfl (by kernel_rfl) (fun _ _ _ h => h) (by assumption) (by rfl) ?_; simp only [Act.put, List.setIfInBounds_toArray, List.set_cons_zero, List.set_cons_succ]
            refine tkNot (i := 7) (oi := ⟨some 43, _, _, _, _, _⟩) rfl (by kernel_rfl) (fun _ _ _ h => h) (by assumption) (by rfl) ?_; simp only [Act.put, List.setIfInBounds_toArray, List.set_cons_zero, List.set_cons_succ]
            refine tkNot (i := 8) (oi := ⟨some 44, _, _, _, _, _⟩) rfl (by kernel_rfl) (fun _ _ _ h => h) (by assumption) (by rfl) ?_; simp only [Act.put, List.setIfInBounds_toArray, List.set_cons_zero, List.set_cons_succ]
            refine tkNot (i := 9) (oi := ⟨some 45, _, _, _, _, _⟩) rfl (by kernel_rfl) (fun _ _ _ h => h) (by assumption) (by rfl) ?_; simp only [Act.put, List.setIfInBounds_toArray, List.set_cons_zero, List.set_cons_succ]
            refine tkNot (i := 10) (oi := ⟨some 46, _, _, _, _, _⟩) rfl (by kernel_rfl) (fun _ _ _ h => h) (by assumption) (by rfl) ?_; simp only [Act.put, List.setIfInBounds_toArray, List.set_cons_zero, List.set_cons_succ]
            refine tkNot (i := 11) (oi := ⟨some 47, _, _, _, _, _⟩) rfl (by kernel_rfl) (fun _ _ _ h => h) (by assumption) (by rfl) ?_; simp only [Act.put, List.setIfInBounds_toArray, List.set_cons_zero, List.set_cons_succ]
            refine tkNot (i := 12) (oi := ⟨some 48, _, _, _, _, _⟩) rfl (by kernel_rfl) (fun _ _ _ h => h) (by assumption) (by rfl) ?_; simp only [Act.put, List.setIfInBounds_toArray, List.set_cons_zero, List.set_cons_succ]
            refine tk (i := 13) (oi := ⟨some 49, _, _, _, _, _⟩) (v := ?_) rfl (by kernel_rfl) (fun _ _ _ h => h) (by assumption) (by rfl) (fun w hSw => ?_) ?_; rotate_left; (focus (first | (go_simp; done) | (go_simp; with_reducible rfl))); simp only [Act.put, List.setIfInBounds_toArray, List.set_cons_zero, List.set_cons_succ]
            refine wpAnyH_done (by kernel_rfl) ?_ _
            go_wp2_with fail
            go_roundg (n - 1)
            case rel => exact ⟨ch, 1, rfl, by go_num, by omega, rfl, by omega, by have := (addRun_len (runsOf (L.take 0)) L[0]).1; have := Hch.out; rw [Hstep.out]; omega, hkr.drew⟩
            case measure => have := Hqj.out; omega
          · have hs1j := hs1'.kept hkr
            have hjm : j - 1 < n := by omega
            have hix := hs1j.ix (P := Try.prog) Try.underlying22 (by kernel_rfl) hjn .i64
            have hc := hs1j.at_ hjn
            have hixp := hs1j.ixz (P := Try.prog) Try.underlying22 (by kernel_rfl) (IntKind.i64.wrap ((j : Int) - 1)) (i := j - 1) (by rw [IntKind.wrap_i64]; omega) hjm .i64
            have hcp := hs1j.at_ hjm
            obtain ⟨x, hx⟩ : ∃ x, x = L[j] := ⟨_, rfl⟩
            obtain ⟨pv, hpv⟩ : ∃ pv, pv = L[j - 1] := ⟨_, rfl⟩
            have hb : (L.map intV).getD j undef = .int .i64 x := by rw [hx]; simp [hjL, intV]
            have hjm' : j - 1 < L.length := by omega
            have hbp : (L.map intV).getD (j - 1) undef = .int .i64 pv := by rw [hpv]; simp [hjm', intV]
            rw [hb] at hc
            rw [hbp] at hcp
            have hlast : (L.take j).getLast? = some pv := by
              rw [show L.take j = L.take (j - 1 + 1) from by congr 1; omega, List.take_succ_eq_append_getElem hjm', List.getLast?_concat, hpv]
            have Hlast := Lib.hid hlast
            have Hx := Lib.hid hx
            have hj0 : decide ((0 : Int) < (j : Int)) = true := by simp; omega
            clear hlast hx hpv hb hbp
            by_cases hxp : x = pv
            · have hne : (x != pv) = false := by simp [hxp]
              have Hxp := Lib.hid hxp
              clear hxp
              go_wp2_with fail
              refine wp_region_held_drew (S := fun wx => wx.cell? ((a.getD default).add j) = some (.int .i64 x) ∧ wx.cell? ((a.getD default).add (j - 1)) = some (.int .i64 pv)) (by kernel_rfl) (⟨hc, hcp⟩) (fun hS => ?_)
              refine tk (i := 0) (oi := ⟨some 36, _, _, _, _, _⟩) (v := ?_) rfl (by kernel_rfl) (fun _ _ _ h => h) (by assumption) (by rfl) (fun w hSw => ?_) ?_; rotate_left; (focus (first | (go_simp; done) | (go_simp; with_reducible rfl))); simp only [Act.put, List.setIfInBounds_toArray, List.set_cons_zero, List.set_cons_succ]
              refine tk (i := 1) (oi := ⟨some 37, _, _, _, _, _⟩) (v := ?_) rfl (by kernel_rfl) (fun _ _ _ h => h) (by assumption) (by rfl) (fun w hSw => ?_) ?_; rotate_left; (focus (first | (go_simp; done) | (go_simp; with_reducible rfl))); simp only [Act.put, List.setIfInBounds_toArray, List.set_cons_zero, List.set_cons_succ]
              refine tk (i := 2) (oi := ⟨some 38, _, _, _, _, _⟩) (v := ?_) rfl (by kernel_rfl) (fun _ _ _ h => h) (by assumption) (by rfl) (fun w hSw => ?_) ?_; rotate_left; (focus (first | (go_simp; done) | (go_simp; with_reducible rfl))); simp only [Act.put, List.setIfInBounds_toArray, List.set_cons_zero, List.set_cons_succ]
              refine tk (i := 3) (oi := ⟨some 39, _, _, _, _, _⟩) (v := ?_) rfl (by kernel_rfl) (fun _ _ _ h => h) (by assumption) (by rfl) (fun w hSw => ?_) ?_; rotate_left; (focus (first | (go_simp; done) | (go_simp; with_reducible rfl))); simp only [Act.put, List.setIfInBounds_toArray, List.set_cons_zero, List.set_cons_succ]
              refine tk (i := 4) (oi := ⟨some 40, _, _, _, _, _⟩) (v := ?_) rfl (by kernel_rfl) (fun _ _ _ h => h) (by assumption) (by rfl) (fun w hSw => ?_) ?_; rotate_left; (focus (first | (go_simp; done) | (go_simp; with_reducible rfl))); simp only [Act.put, List.setIfInBounds_toArray, List.set_cons_zero, List.set_cons_succ]
              refine tk (i := 5) (oi := ⟨some 41, _, _, _, _, _⟩) (v := ?_) rfl (by kernel_rfl) (fun _ _ _ h => h) (by assumption) (by rfl) (fun w hSw => ?_) ?_; rotate_left; (focus (first | (go_simp; done) | (go_simp; with_reducible rfl))); simp only [Act.put, List.setIfInBounds_toArray, List.set_cons_zero, List.set_cons_succ]
              refine tk (i := 6) (oi := ⟨some 42, _, _, _, _, _⟩) (v := ?_) rfl (by kernel_rfl) (fun _ _ _ h => h) (by assumption) (by rfl) (fun w hSw => ?_) ?_; rotate_left; (focus (first | (go_simp; done) | (go_simp; with_reducible rfl))); simp only [Act.put, List.setIfInBounds_toArray, List.set_cons_zero, List.set_cons_succ]
              refine tk (i := 7) (oi := ⟨some 43, _, _, _, _, _⟩) (v := ?_) rfl (by kernel_rfl) (fun _ _ _ h => h) (by assumption) (by rfl) (fun w hSw => ?_) ?_; rotate_left; (focus (first | (go_simp; done) | (go_simp; with_reducible rfl))); simp only [Act.put, List.setIfInBounds_toArray, List.set_cons_zero, List.set_cons_succ]
              refine tk (i := 8) (oi := ⟨some 44, _, _, _, _, _⟩) (v := ?_) rfl (by kernel_rfl) (fun _ _ _ h => h) (by assumption) (by rfl) (fun w hSw => ?_) ?_; rotate_left; (focus (first | (go_simp; done) | (go_simp; with_reducible rfl))); simp only [Act.put, List.setIfInBounds_toArray, List.set_cons_zero, List.set_cons_succ]
              refine tk (i := 9) (oi := ⟨some 45, _, _, _, _, _⟩) (v := ?_) rfl (by kernel_rfl) (fun _ _ _ h => h) (by assumption) (by rfl) (fun w hSw => ?_) ?_; rotate_left; (focus (first | (go_simp; done) | (go_simp; with_reducible rfl))); simp only [Act.put, List.setIfInBounds_toArray, List.set_cons_zero, List.set_cons_succ]
              refine tk (i := 10) (oi := ⟨some 46, _, _, _, _, _⟩) (v := ?_) rfl (by kernel_rfl) (fun _ _ _ h => h) (by assumption) (by rfl) (fun w hSw => ?_) ?_; rotate_left; (focus (first | (go_simp; done) | (go_simp; with_reducible rfl))); simp only [Act.put, List.setIfInBounds_toArray, List.set_cons_zero, List.set_cons_succ]
              refine tk (i := 11) (oi := ⟨some 47, _, _, _, _, _⟩) (v := ?_) rfl (by kernel_rfl) (fun _ _ _ h => h) (by assumption) (by rfl) (fun w hSw => ?_) ?_; rotate_left; (focus (first | (go_simp; done) | (go_simp; with_reducible rfl))); simp only [Act.put, List.setIfInBounds_toArray, List.set_cons_zero, List.set_cons_succ]
              refine tk (i := 12) (oi := ⟨some 48, _, _, _, _, _⟩) (v := ?_) rfl (by kernel_rfl) (fun _ _ _ h => h) (by assumption) (by rfl) (fun w hSw => ?_) ?_; rotate_left; (focus (first | (go_simp; done) | (go_simp; with_reducible rfl))); simp only [Act.put, List.setIfInBounds_toArray, List.set_cons_zero, List.set_cons_succ]
              refine tk (i := 13) (oi := ⟨some 49, _, _, _, _, _⟩) (v := ?_) rfl (by kernel_rfl) (fun _ _ _ h => h) (by assumption) (by rfl) (fun w hSw => ?_) ?_; rotate_left; (focus (first | (go_simp; done) | (go_simp; with_reducible rfl))); simp only [Act.put, List.setIfInBounds_toArray, List.set_cons_zero, List.set_cons_succ]
              refine wpAnyH_done (by kernel_rfl) ?_ _
              go_wp2_with fail
              go_roundg (n - (j + 1))
              case rel => exact ⟨ch, j + 1, rfl, by go_num, by omega, rfl, by omega, by have := (addRun_len (runsOf (L.take j)) L[j]).1; have := Hch.out; rw [Hstep.out]; omega, hkr.drew⟩
              case measure => have := Hqj.out; omega
            · have hne : (x != pv) = true := by simp [hxp]
              have Hxp := Lib.hid hxp
              clear hxp
              go_wp2_with fail
              refine wp_region_held_drew (S := fun wx => wx.cell? ((a.getD default).add j) = some (.int .i64 x) ∧ wx.cell? ((a.getD default).add (j - 1)) = some (.int .i64 pv)) (by kernel_rfl) (⟨hc, hcp⟩) (fun hS => ?_)
              refine tk (i := 0) (oi := ⟨some 36, _, _, _, _, _⟩) (v := ?_) rfl (by kernel_rfl) (fun _ _ _ h => h) (by assumption) (by rfl) (fun w hSw => ?_) ?_; rotate_left; (focus (first | (go_simp; done) | (go_simp; with_reducible rfl))); simp only [Act.put, List.setIfInBounds_toArray, List.set_cons_zero, List.set_cons_succ]
              refine tk (i := 1) (oi := ⟨some 37, _, _, _, _, _⟩) (v := ?_) rfl (by kernel_rfl) (fun _ _ _ h => h) (by assumption) (by rfl) (fun w hSw => ?_) ?_; rotate_left; (focus (first | (go_simp; done) | (go_simp; with_reducible rfl))); simp only [Act.put, List.setIfInBounds_toArray, List.set_cons_zero, List.set_cons_succ]
              refine tk (i := 2) (oi := ⟨some 38, _, _, _, _, _⟩) (v := ?_) rfl (by kernel_rfl) (fun _ _ _ h => h) (by assumption) (by rfl) (fun w hSw => ?_) ?_; rotate_left; (focus (first | (go_simp; done) | (go_simp; with_reducible rfl))); simp only [Act.put, List.setIfInBounds_toArray, List.set_cons_zero, List.set_cons_succ]
              refine tk (i := 3) (oi := ⟨some 39, _, _, _, _, _⟩) (v := ?_) rfl (by kernel_rfl) (fun _ _ _ h => h) (by assumption) (by rfl) (fun w hSw => ?_) ?_; rotate_left; (focus (first | (go_simp; done) | (go_simp; with_reducible rfl))); simp only [Act.put, List.setIfInBounds_toArray, List.set_cons_zero, List.set_cons_succ]
              refine tk (i := 4) (oi := ⟨some 40, _, _, _, _, _⟩) (v := ?_) rfl (by kernel_rfl) (fun _ _ _ h => h) (by assumption) (by rfl) (fun w hSw => ?_) ?_; rotate_left; (focus (first | (go_simp; done) | (go_simp; with_reducible rfl))); simp only [Act.put, List.setIfInBounds_toArray, List.set_cons_zero, List.set_cons_succ]
              refine tk (i := 5) (oi := ⟨some 41, _, _, _, _, _⟩) (v := ?_) rfl (by kernel_rfl) (fun _ _ _ h => h) (by assumption) (by rfl) (fun w hSw => ?_) ?_; rotate_left; (focus (first | (go_simp; done) | (go_simp; with_reducible rfl))); simp only [Act.put, List.setIfInBounds_toArray, List.set_cons_zero, List.set_cons_succ]
              refine tk (i := 6) (oi := ⟨some 42, _, _, _, _, _⟩) (v := ?_) rfl (by kernel_rfl) (fun _ _ _ h => h) (by assumption) (by rfl) (fun w hSw => ?_) ?_; rotate_left; (focus (first | (go_simp; done) | (go_simp; with_reducible rfl))); simp only [Act.put, List.setIfInBounds_toArray, List.set_cons_zero, List.set_cons_succ]
              refine tk (i := 7) (oi := ⟨some 43, _, _, _, _, _⟩) (v := ?_) rfl (by kernel_rfl) (fun _ _ _ h => h) (by assumption) (by rfl) (fun w hSw => ?_) ?_; rotate_left; (focus (first | (go_simp; done) | (go_simp; with_reducible rfl))); simp only [Act.put, List.setIfInBounds_toArray, List.set_cons_zero, List.set_cons_succ]
              refine tk (i := 8) (oi := ⟨some 44, _, _, _, _, _⟩) (v := ?_) rfl (by kernel_rfl) (fun _ _ _ h => h) (by assumption) (by rfl) (fun w hSw => ?_) ?_; rotate_left; (focus (first | (go_simp; done) | (go_simp; with_reducible rfl))); simp only [Act.put, List.setIfInBounds_toArray, List.set_cons_zero, List.set_cons_succ]
              refine tk (i := 9) (oi := ⟨some 45, _, _, _, _, _⟩) (v := ?_) rfl (by kernel_rfl) (fun _ _ _ h => h) (by assumption) (by rfl) (fun w hSw => ?_) ?_; rotate_left; (focus (first | (go_simp; done) | (go_simp; with_reducible rfl))); simp only [Act.put, List.setIfInBounds_toArray, List.set_cons_zero, List.set_cons_succ]
              refine tk (i := 10) (oi := ⟨some 46, _, _, _, _, _⟩) (v := ?_) rfl (by kernel_rfl) (fun _ _ _ h => h) (by assumption) (by rfl) (fun w hSw => ?_) ?_; rotate_left; (focus (first | (go_simp; done) | (go_simp; with_reducible rfl))); simp only [Act.put, List.setIfInBounds_toArray, List.set_cons_zero, List.set_cons_succ]
              refine tk (i := 11) (oi := ⟨some 47, _, _, _, _, _⟩) (v := ?_) rfl (by kernel_rfl) (fun _ _ _ h => h) (by assumption) (by rfl) (fun w hSw => ?_) ?_; rotate_left; (focus (first | (go_simp; done) | (go_simp; with_reducible rfl))); simp only [Act.put, List.setIfInBounds_toArray, List.set_cons_zero, List.set_cons_succ]
              refine tk (i := 12) (oi := ⟨some 48, _, _, _, _, _⟩) (v := ?_) rfl (by kernel_rfl) (fun _ _ _ h => h) (by assumption) (by rfl) (fun w hSw => ?_) ?_; rotate_left; (focus (first | (go_simp; done) | (go_simp; with_reducible rfl))); simp only [Act.put, List.setIfInBounds_toArray, List.set_cons_zero, List.set_cons_succ]
              refine tk (i := 13) (oi := ⟨some 49, _, _, _, _, _⟩) (v := ?_) rfl (by kernel_rfl) (fun _ _ _ h => h) (by assumption) (by rfl) (fun w hSw => ?_) ?_; rotate_left; (focus (first | (go_simp; done) | (go_simp; with_reducible rfl))); simp only [Act.put, List.setIfInBounds_toArray, List.set_cons_zero, List.set_cons_succ]
              refine wpAnyH_done (by kernel_rfl) ?_ _
              go_wp2_with fail
              go_roundg (n - (j + 1))
              case rel =>
                refine ⟨ch + 1, j + 1, by go_num, by go_num, by omega, rfl, by omega, ?_, hkr.drew⟩
                have h1 := (addRun_len (runsOf (L.take j)) L[j]).2 (fun y hy e => by
                  have h2 := runsOf_last _ _ hy
                  rw [Hlast.out] at h2
                  injection h2 with h2
                  exact Hxp.out (by rw [Hx.out, ← e, ← h2]))
                have := Hch.out
                rw [Hstep.out]
                omega
              case measure => have := Hqj.out; omega
        · obtain rfl : j = n := by omega
          have hchL : 2 * ch + 1 ≤ (putRuns L).length := by
            have := Hch.out
            rw [List.take_of_length_le (by rw [Hlen.out]; exact Nat.le_refl _)] at this
            have := runs_le L
            omega
          have hk0r : Keeps No w wr := hk02.transNo hkr
          have hs3r := hs3'.kept hkr
          have hs2r := hs2.kept hkr
          go_wp2_with fail
          refine (rput_any a j c L _ (hs1'.kept hkr) Hw.out (by omega)).mono ?_
          rintro e w5 ⟨a5, m5, c5, rfl, hs5, -, hk5⟩
          have hm5 : (putRuns L).length = m5 := by simpa using hs5.len
          rw [hm5] at hchL
          have hs2s := hs2r.kept hk5
          have hs3s := hs3r.kept hk5
          clear hm5
          go_wp2_with fail
          rw [show ((1 : Int) + (k : Int)) = ((k + 1 : Nat) : Int) from by omega]
          refine (rget_any a2 m2 c2 (putRuns X) ((k + 1 : Nat) : Int) _ hs2s (by omega) (wf_nat _ (by omega))).mono ?_
          intro e w6 h6
          obtain ⟨a6, c6, rfl, hs6, hk6⟩ := h6.outOk Hgp.out
          clear h6
          have hs3t := hs3s.kept hk6
          have hd13 : decide ((m2 : Int) ≤ 13) = true := by simp; omega
          go_wp2_with fail
          refine (rsame_any _ _ _ X _ _ _ X _ hs6 hs3t (by rw [HXl.out]; omega) (by omega)).mono ?_
          rintro e w7 ⟨rfl, hk7⟩
          have hdm : decide ((2 : Int) * (ch : Int) + 1 ≤ (m5 : Int)) = true := by simp; omega
          go_wp2_with fail
          go_ret
          exact ⟨ret_bool (by simp; try omega), ((hk0r.transNo hk5).transNo hk6).transNo hk7⟩

theorem i64_map (l : List {n : Int // (Lit.int .i64 n).wf = true}) : l.map i64V = (l.map (·.1)).map intV := by rw [List.map_map]; rfl
theorem i64_wf (l : List {n : Int // (Lit.int .i64 n).wf = true}) : ∀ x ∈ l.map (·.1), (Lit.int .i64 x).wf = true := by
  intro x hx; obtain ⟨y, _, rfl⟩ := List.mem_map.1 hx; exact y.2
theorem runsPuts_walk (a : Option Addr) (n c : Nat) (l : List {n : Int // (Lit.int .i64 n).wf = true}) (w : World) (hs : Sl w a n c (l.map i64V)) (hn : n * 8 ≤ 140737488351232) :
    Calls Try.prog 3 #[.slice a n c] w fun e w' => e = .returned (.bool true) ∧ Keeps No w w' :=
  runsPuts_any a n c (l.map (·.1)) w (by rw [← i64_map]; exact hs) (i64_wf l) (by omega)
theorem runsGets_walk (a : Option Addr) (m c : Nat) (b : List UInt8) (n : Int) (w : World) (hs : Sl w a m c (b.map byteV)) (hm : m ≤ 140737488351232) (hn : (Lit.int .i64 n).wf = true) :
    Calls Try.prog 4 #[.slice a m c, .int .i64 n] w fun e w' => e = .returned (.bool true) ∧ Keeps No w w' := runsGets_any a m c b n w hs hm hn
theorem runsShort_walk (v k : Int) (a : Option Addr) (n c : Nat) (l : List {n : Int // (Lit.int .i64 n).wf = true}) (w : World) (hv : (Lit.int .i64 v).wf = true) (hk : (Lit.int .u8 k).wf = true) (hs : Sl w a n c (l.map i64V)) (hn : n * 8 ≤ 140737488351232) :
    Calls Try.prog 5 #[.int .i64 v, .int .u8 k, .slice a n c] w fun e w' => e = .returned (.bool true) ∧ Keeps No w w' := by
  obtain ⟨q, rfl, hq⟩ := wf_u8_nat hk
  exact runsShort_any v q a n c (l.map (·.1)) w hv hq (by rw [← i64_map]; exact hs) (i64_wf l) (by omega)
end Go.Proofs.Ytmhmpnbcjcmnnaa
