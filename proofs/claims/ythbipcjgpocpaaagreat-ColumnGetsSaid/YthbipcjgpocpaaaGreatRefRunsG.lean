/- The walks of the document's answer for runs: Get, Same. -/
import Derived.Test.YthbipcjgpocpaaaGreatRefRuns
import Derived.Test.YthbipcjgpocpaaaGreatRunsG
import Derived.BigQuiet
namespace Go.Proofs.YthbipcjgpocpaaaGreat
open Go.RowKit
set_option linter.unusedSimpArgs false
set_option linter.unusedVariables false

theorem readP_none {b : List UInt8} (h : natGo 0 0 b = none) : readP b = (0, 0) := by unfold readP; rw [h]; rfl
theorem readP_some {b r : List UInt8} {v : Nat} (h : natGo 0 0 b = some (v, r)) : (readP b).1 = v ∧ 0 < (readP b).2 ∧ (readP b).2 ≤ b.length ∧ r = b.drop (readP b).2 := by
  have h1 := (natGo_lt64 h).2
  have h2 := natGo_nat h
  have h3 : readP b = (v, b.length - r.length) := by unfold readP; rw [h]; rfl
  rw [h3]
  refine ⟨rfl, by simp; omega, by simp, ?_⟩
  have h4 : b.length - r.length = (nat7 v).length := by rw [h2]; simp
  simp only [h4]
  conv => rhs; rw [h2]
  simp

theorem refGo_fuel (n : Nat) : ∀ f f' out r, r.length < f → r.length < f' → refGo n f out r = refGo n f' out r := by
  intro f
  induction f with
  | zero => intro f' out r h; omega
  | succ f ih =>
    intro f' out r h h'
    obtain ⟨f', rfl⟩ : ∃ q, f' = q + 1 := ⟨f' - 1, by omega⟩
    unfold refGo
    split
    · rfl
    cases h1 : natGo 0 0 r with
    | none => rfl
    | some x1 =>
      obtain ⟨u, r1⟩ := x1
      simp only
      cases h2 : natGo 0 0 r1 with
      | none => rfl
      | some x2 =>
        obtain ⟨q, r2⟩ := x2
        simp only
        split
        · rfl
        split
        · rfl
        · have := (natGo_lt64 h1).2
          have := (natGo_lt64 h2).2
          exact ih _ _ _ (by omega) (by omega)
def refFin (N : Nat) (b : List UInt8) : Option (List Int) → Option (List Int)
  | none => none
  | some out => if out.length = N ∧ putRuns out = b then some out else none
theorem refGetN_fin (b : List UInt8) (N : Nat) : refGetN b N = match natGo 0 0 b with | none => none | some (_, r) => refFin N b (refGo N (b.length + 1) [] r) := by
  unfold refGetN
  cases natGo 0 0 b with
  | none => rfl
  | some x =>
    obtain ⟨c, b1⟩ := x
    simp only
    cases refGo N (b.length + 1) [] b1 with
    | none => rfl
    | some y => rfl

set_option maxRecDepth 100000 in
set_option maxHeartbeats 4000000 in
theorem refRGet_any (a : Option Addr) (m c : Nat) (b : List UInt8) (n : Int) (w : World) (hs : Sl w a m c (b.map byteV)) (hm : m ≤ 100000) (hn : (Lit.int .i64 n).wf = true) :
    Calls Tryz.prog 36 #[.slice a m c, .int .i64 n] w (RGetPost (rgetR b n) w) := by
  have hw := wf_i64_iff hn
  have hlen : b.length = m := by simpa using hs.len
  have Hlen := Lib.hid hlen
  clear hlen
  go_enter Tryz.func36, Tryz.ntmps36
  by_cases h0 : n < 0
  · go_wp2_with fail
    go_ret2
    exact RGetPost.no (if_pos (.inl h0)) (Keeps.refl _ _)
  by_cases h1 : 256 < n
  · go_wp2_with fail
    go_ret2
    exact RGetPost.no (if_pos (.inr h1)) (Keeps.refl _ _)
  obtain ⟨N, rfl⟩ : ∃ N : Nat, n = (N : Int) := ⟨n.toNat, by omega⟩
  have hN : N ≤ 256 := by omega
  have hrg : rgetR b (N : Int) = refGetN b N := by
    rw [refGetN_eq b N hN]
    unfold rgetR
    rw [if_neg (by omega)]
    rfl
  have Hrg := Lib.hid hrg
  clear hn hw h0 hrg
  go_wp2_with fail
  refine (read_any a m c b _ hs (by omega)).mono ?_
  rintro e w1 ⟨rfl, rfl⟩
  cases hr0 : natGo 0 0 b with
  | none =>
    have hno : rgetR b (N : Int) = none := by rw [Hrg.out]; unfold refGetN; rw [hr0]
    have Hno := Lib.hid hno
    rw [readP_none hr0]
    have Hr0 := Lib.hid hr0
    clear hno hr0
    simp only
    go_wp2_with fail
    go_ret2
    exact RGetPost.no Hno.out (Keeps.refl _ _)
  | some x0 =>
    obtain ⟨v0, r0⟩ := x0
    obtain ⟨e1, e2, e3, e4⟩ := readP_some hr0
    obtain ⟨k0, hk0⟩ : ∃ k0, k0 = (readP b).2 := ⟨_, rfl⟩
    rw [e1]
    rw [← hk0] at e2 e3 e4 ⊢
    have hne : ((k0 : Int) == 0) = false := by simp; omega
    have hrg2 : rgetR b (N : Int) = refFin N b (refGo N (b.length + 1) [] (b.drop k0)) := by
      rw [Hrg.out, refGetN_fin, hr0, ← e4]
    have hk0m : k0 ≤ m := by rw [← Hlen.out]; exact e3
    have Hrg2 := Lib.hid hrg2
    have Hk0 := Lib.hid hk0
    clear hr0 e1 e3 e4 hk0 hrg2 Hrg
    go_wp2_with fail
    go_loopg [7, 8] (m - k0) (fun q v7 v8 wr => ∃ (i : Nat) (out : List Int) (v : Value), v7 = .int .i64 (i : Int) ∧ v8 = v ∧ q = m - i ∧ i ≤ m ∧ refGo N (b.length + 1) [] (b.drop k0) = refGo N (m - i + 1) out (b.drop i) ∧ out.length ≤ N ∧ (∀ x ∈ out, fold x < 18446744073709551616) ∧ wr.ownsRow w.heap.size 3 1 v out.length (out.map intV) ∧ Keeps No w wr)
    case atStart =>
      refine ⟨k0, [], _, rfl, rfl, rfl, hk0m, ?_, Nat.zero_le _, fun x hx => by simp at hx, World.ownsRow_nil _ _ _ _, Keeps.refl _ _⟩
      exact refGo_fuel N _ _ _ _ (by rw [List.length_drop]; omega) (by rw [List.length_drop, Hlen.out]; omega)
    case round =>
      obtain ⟨i, out, v, rfl, rfl, hq, him, hgo, hol, hof, hown, hkr⟩ := hrel
      have Hq := Lib.hid hq
      have Hgo := Lib.hid hgo
      have Hof := Lib.hid hof
      clear hq hgo hof
      have hzr := hkr.size
      have hsr := hs.kept hkr
      by_cases hlt : i < m
      · obtain ⟨a2, hf1, hf2, hs2, -⟩ := hsr.from_ (P := Tryz.prog) Tryz.underlying22 (by kernel_rfl) (k := i) (by omega) .i64 (i : Int) rfl
        rw [← List.map_drop] at hs2
        go_wp2_with fail
        refine (read_any _ _ _ (b.drop i) _ hs2 (by omega)).mono ?_
        rintro e w2 ⟨rfl, rfl⟩
        have hri : b.drop i ≠ [] := by
          intro h
          have := congrArg List.length h
          rw [List.length_drop, Hlen.out] at this
          simp at this
          omega
        have hstep0 : refGo N (m - i + 1) out (b.drop i) = match natGo 0 0 (b.drop i) with
            | none => none
            | some (u, r1) => match natGo 0 0 r1 with
              | none => none
              | some (m', r2) => if 256 < m' then none else if N < (out ++ List.replicate m' (unfoldN u)).length then none else refGo N (m - i) (out ++ List.replicate m' (unfoldN u)) r2 := by
          conv => lhs; unfold refGo
          rw [if_neg hri]
          rfl
        have Hri := Lib.hid hri
        have Hst := Lib.hid hstep0
        clear hri hstep0
        cases hr1 : natGo 0 0 (b.drop i) with
        | none =>
          have hno : rgetR b (N : Int) = none := by rw [Hrg2.out, Hgo.out, Hst.out, hr1]; rfl
          have Hno := Lib.hid hno
          rw [readP_none hr1]
          clear hno hr1
          simp only
          go_wp2_with fail
          go_ret2
          exact RGetPost.no Hno.out hkr
        | some x1 =>
          obtain ⟨u, r1⟩ := x1
          obtain ⟨e1, e2, e3, e4⟩ := readP_some hr1
          obtain ⟨k, hk⟩ : ∃ k, k = (readP (b.drop i)).2 := ⟨_, rfl⟩
          have hu := (natGo_lt64 hr1).1
          rw [e1]
          rw [← hk] at e2 e3 e4 ⊢
          rw [List.length_drop, Hlen.out] at e3
          rw [List.drop_drop] at e4
          have hne1 : ((k : Int) == 0) = false := by simp; omega
          have Hr1 := Lib.hid hr1
          have He4 := Lib.hid e4
          clear hr1 e1 e4 hk
          obtain ⟨a3, hg1, hg2, hs3, -⟩ := hsr.from_ (P := Tryz.prog) Tryz.underlying22 (by kernel_rfl) (k := i + k) (by omega) .i64 ((i : Int) + (k : Int)) (by omega)
          rw [← List.map_drop] at hs3
          go_wp2_with fail
          refine (read_any _ _ _ (b.drop (i + k)) _ hs3 (by omega)).mono ?_
          rintro e w3 ⟨rfl, rfl⟩
          cases hr2 : natGo 0 0 (b.drop (i + k)) with
          | none =>
            have hno : rgetR b (N : Int) = none := by rw [Hrg2.out, Hgo.out, Hst.out, Hr1.out]; simp only; rw [He4.out, hr2]; rfl
            have Hno := Lib.hid hno
            rw [readP_none hr2]
            clear hno hr2
            simp only
            go_wp2_with fail
            go_ret2
            exact RGetPost.no Hno.out hkr
          | some x2 =>
            obtain ⟨M, r2⟩ := x2
            obtain ⟨f1, f2, f3, f4⟩ := readP_some hr2
            obtain ⟨j, hj⟩ : ∃ j, j = (readP (b.drop (i + k))).2 := ⟨_, rfl⟩
            have hM := (natGo_lt64 hr2).1
            rw [f1]
            rw [← hj] at f2 f3 f4 ⊢
            rw [List.length_drop, Hlen.out] at f3
            rw [List.drop_drop] at f4
            have hne2 : ((j : Int) == 0) = false := by simp; omega
            have hst2 : refGo N (m - i + 1) out (b.drop i) = if 256 < M then none else if N < (out ++ List.replicate M (unfoldN u)).length then none else refGo N (m - i) (out ++ List.replicate M (unfoldN u)) (b.drop (i + k + j)) := by
              rw [Hst.out, Hr1.out]; simp only; rw [He4.out, hr2]; simp only; rw [f4]
            have Hst2 := Lib.hid hst2
            clear hr2 f1 f4 hj hst2
            by_cases hM256 : 256 < M
            · have hno : rgetR b (N : Int) = none := by rw [Hrg2.out, Hgo.out, Hst2.out, if_pos hM256]; rfl
              have Hno := Lib.hid hno
              have hMi : (256 : Int) < (M : Int) := by omega
              clear hno
              go_wp2_with fail
              go_ret2
              exact RGetPost.no Hno.out hkr
            · have hMi : ¬ (256 : Int) < (M : Int) := by omega
              go_wp2_with fail
              go_loopg [8, 13] M (fun q v8 v13 wx => ∃ (s : Nat) (v' : Value), v8 = v' ∧ v13 = .int .u64 (s : Int) ∧ q = M - s ∧ s ≤ M ∧ wx.ownsRow w.heap.size 3 1 v' (out ++ List.replicate s (unfoldN u)).length ((out ++ List.replicate s (unfoldN u)).map intV) ∧ Keeps No w wx)
              case atStart => exact ⟨0, _, rfl, rfl, rfl, Nat.zero_le _, by simpa using hown, hkr⟩
              case round =>
                obtain ⟨s, v', rfl, rfl, hqs, hsM, hownI, hkI⟩ := hrel
                have Hqs := Lib.hid hqs
                clear hqs
                have hzI := hkI.size
                have hlen2 : (out ++ List.replicate s (unfoldN u)).length = out.length + s := by simp
                by_cases hsl : s < M
                · go_wp2_with fail
                  refine (unfolded_any u _ hu).mono ?_
                  rintro e w5 ⟨rfl, rfl⟩
                  go_wp2_with (at_builtin; go_loud (refine app_own rfl _ _ 63 rfl w.heap.size 3 (.int .i64 0) 8 Tryz.underlying63 int_info rfl (by decide) _ (out ++ List.replicate s (unfoldN u)).length ((out ++ List.replicate s (unfoldN u)).map intV) rfl (hownI.alloc _) _ 1 1 [.int .i64 (unfoldN u)] rfl (Sl.one _ _ _) ?h1 ?hb ?hB ?_))
                  case h1 => first | rfl | (intro u hu; simp at hu; subst hu; rfl)
                  case hb => omega
                  case hB => first | omega | (simp; omega)
                  intro v6 w6 hown6 hg6
                  go_wp2_with fail
                  go_roundg (M - (s + 1))
                  case rel =>
                    refine ⟨s + 1, v6, rfl, by go_num, rfl, by omega, ?_, (hkI.alloc _).grown hg6 (fun k hk hlt => absurd hlt (by have := (hownI.lt k hk).1; omega))⟩
                    have e : out ++ List.replicate (s + 1) (unfoldN u) = (out ++ List.replicate s (unfoldN u)) ++ [unfoldN u] := by rw [List.replicate_succ', List.append_assoc]
                    rw [e, List.length_append, List.map_append]
                    simpa [intV] using hown6
                  case measure => have := Hqs.out; omega
                · obtain rfl : s = M := by omega
                  by_cases hN2 : N < out.length + s
                  · have hno : rgetR b (N : Int) = none := by rw [Hrg2.out, Hgo.out, Hst2.out, if_neg hM256, if_pos (by rw [hlen2]; exact hN2)]; rfl
                    have Hno := Lib.hid hno
                    have hNi : (N : Int) < (out.length : Int) + (s : Int) := by omega
                    clear hno
                    obtain ⟨ao, co, rfl, hso, hfo⟩ := Sl.ofOwn hownI
                    rw [hlen2]
                    go_wp2_with fail
                    go_ret2
                    exact RGetPost.no Hno.out hkI
                  · have hNi : ¬ (N : Int) < (out.length : Int) + (s : Int) := by omega
                    have hownI' := hownI
                    obtain ⟨ao, co, rfl, hso, hfo⟩ := Sl.ofOwn hownI
                    rw [hlen2]
                    rw [hlen2] at hownI'
                    go_wp2_with fail
                    go_roundg (m - (i + k + j))
                    case rel =>
                      refine ⟨i + k + j, out ++ List.replicate s (unfoldN u), _, by go_num, rfl, rfl, by omega, ?_, by omega, fun x hx => ?_, by rw [hlen2]; exact hownI', hkI⟩
                      · rw [Hgo.out, Hst2.out, if_neg hM256, if_neg (by rw [hlen2]; exact hN2)]
                        exact refGo_fuel N _ _ _ _ (by rw [List.length_drop, Hlen.out]; omega) (by rw [List.length_drop, Hlen.out]; omega)
                      · rcases List.mem_append.1 hx with hx | hx
                        · exact Hof.out x hx
                        · rw [(List.mem_replicate.1 hx).2, fold_unfold]; exact hu
                    case measure => have := Hq.out; omega
      · obtain rfl : i = m := by omega
        have hfin : rgetR b (N : Int) = if out.length = N ∧ putRuns out = b then some out else none := by
          rw [Hrg2.out, Hgo.out, Nat.sub_self, List.drop_of_length_le (by rw [Hlen.out]; exact Nat.le_refl _)]
          rfl
        have Hfin := Lib.hid hfin
        have hown' := hown
        obtain ⟨ao, co, rfl, hso, hfo⟩ := Sl.ofOwn hown
        clear hfin
        by_cases hl : out.length = N
        · have hl' : ((out.length : Int) != (N : Int)) = false := by simp [hl]
          have hwf : ∀ x ∈ out, (Lit.int .i64 x).wf = true := fun x hx => by rw [← unfold_fold x]; exact unfold_wf (Hof.out x hx)
          have HL := Lib.hid hl
          have Hwf := Lib.hid hwf
          clear hl hwf
          by_cases hP : putRuns out = b
          · have hne : (putRuns out == b) = true := by simp [hP]
            have HP := Lib.hid hP
            clear hP
            go_wp2_with fail
            refine wp_region_held_drew (S := fun wx => (convert 22 9 (.slice a i c)).run Tryz.prog wx = .ok (.string ⟨b.toArray⟩) wx) (by kernel_rfl) ((hsr.kept (Keeps.refl No wr).drew).str _ _ _ Tryz.underlying22 Tryz.underlying5 Tryz.underlying9) (fun hS => ?_)
            refine tk (i := 0) (oi := ⟨some 74, _, _, _, _, _⟩) (v := ?_) rfl (by kernel_rfl) (fun _ _ _ h => h) (by assumption) (by rfl) (fun w hSw => ?_) ?_; rotate_left; (focus (first | (go_simp; done) | (go_simp; with_reducible rfl))); simp only [Act.put, List.setIfInBounds_toArray, List.set_cons_zero, List.set_cons_succ]
            refine tk (i := 1) (oi := ⟨some 75, _, _, _, _, _⟩) (v := ?_) rfl (by kernel_rfl) (fun _ _ _ h => h) (by assumption) (by rfl) (fun w hSw => ?_) ?_; rotate_left; (focus (first | (go_simp; done) | (go_simp; with_reducible rfl))); simp only [Act.put, List.setIfInBounds_toArray, List.set_cons_zero, List.set_cons_succ]
            refine tk (i := 2) (oi := ⟨some 76, _, _, _, _, _⟩) (v := ?_) rfl (by kernel_rfl) (fun _ _ _ h => h) (by assumption) (by rfl) (fun w hSw => ?_) ?_; rotate_left; (focus (first | (go_simp; done) | (go_simp; with_reducible rfl))); simp only [Act.put, List.setIfInBounds_toArray, List.set_cons_zero, List.set_cons_succ]
            refine tk (i := 3) (oi := ⟨some 77, _, _, _, _, _⟩) (v := ?_) rfl (by kernel_rfl) (fun _ _ _ h => h) (by assumption) (by rfl) (fun w hSw => ?_) ?_; rotate_left; (focus (first | (go_simp; done) | (go_simp; with_reducible rfl))); simp only [Act.put, List.setIfInBounds_toArray, List.set_cons_zero, List.set_cons_succ]
            refine tk (i := 4) (oi := ⟨some 78, _, _, _, _, _⟩) (v := ?_) rfl (by kernel_rfl) (fun _ _ _ h => h) (by assumption) (by rfl) (fun w hSw => ?_) ?_; rotate_left; (focus (first | (go_simp; done) | (go_simp; with_reducible rfl))); simp only [Act.put, List.setIfInBounds_toArray, List.set_cons_zero, List.set_cons_succ]
            refine tk (i := 5) (oi := ⟨some 79, _, _, _, _, _⟩) (v := ?_) rfl (by kernel_rfl) (fun _ _ _ h => h) (by assumption) (by rfl) (fun w hSw => ?_) ?_; rotate_left; (focus (first | (go_simp; done) | (go_simp; with_reducible rfl))); simp only [Act.put, List.setIfInBounds_toArray, List.set_cons_zero, List.set_cons_succ]
            refine tk (i := 8) (oi := ⟨some 82, _, _, _, _, _⟩) (v := ?_) rfl (by kernel_rfl) (fun _ _ _ h => h) (by assumption) (by rfl) (fun w hSw => ?_) ?_; rotate_left; (focus (first | (go_simp; done) | (go_simp; with_reducible rfl))); simp only [Act.put, List.setIfInBounds_toArray, List.set_cons_zero, List.set_cons_succ]
            refine tk (i := 9) (oi := ⟨some 83, _, _, _, _, _⟩) (v := ?_) rfl (by kernel_rfl) (fun _ _ _ h => h) (by assumption) (by rfl) (fun w hSw => ?_) ?_; rotate_left; (focus (first | (go_simp; done) | (go_simp; with_reducible rfl))); simp only [Act.put, List.setIfInBounds_toArray, List.set_cons_zero, List.set_cons_succ]
            refine alone (i := 6) (oi := ⟨some 80, _, _, _, _, _⟩) rfl (by kernel_rfl) (by rfl) (fun K hK => ?_); go_simp
            refine (refRPut_any _ _ _ out _ (hso.kept (Keeps.refl No wr).drew) Hwf.out (by omega)).mono ?_
            rintro e w5 ⟨a5, m5, c5, rfl, hs5, -, hk5⟩
            have hc5 := hs5.str (P := Tryz.prog) 22 9 _ Tryz.underlying22 Tryz.underlying5 Tryz.underlying9
            refine hK.out (fun wx => (convert 22 9 (.slice a i c)).run Tryz.prog wx = .ok (.string ⟨b.toArray⟩) wx) _ _ (fun _ h => h) ((hsr.kept ((Keeps.refl No wr).drew.transNo hk5)).str _ _ _ Tryz.underlying22 Tryz.underlying5 Tryz.underlying9) ?_
            clear hK K hS
            intro hS
            refine alone (i := 7) (oi := ⟨some 81, _, _, _, _, _⟩) rfl (by kernel_rfl) (by rfl) (fun K hK => ?_); go_simp
            refine hK.out (fun wx => (convert 22 9 (.slice a i c)).run Tryz.prog wx = .ok (.string ⟨b.toArray⟩) wx) _ _ (fun _ h => h) (hS) ?_
            clear hK K hS
            intro hS
            refine tk (i := 10) (oi := ⟨some 84, _, _, _, _, _⟩) (v := ?_) rfl (by kernel_rfl) (fun _ _ _ h => h) (by assumption) (by rfl) (fun w hSw => ?_) ?_; rotate_left; (focus (first | (go_simp; done) | (go_simp; with_reducible rfl))); simp only [Act.put, List.setIfInBounds_toArray, List.set_cons_zero, List.set_cons_succ]
            refine tk (i := 11) (oi := ⟨some 85, _, _, _, _, _⟩) (v := ?_) rfl (by kernel_rfl) (fun _ _ _ h => h) (by assumption) (by rfl) (fun w hSw => ?_) ?_; rotate_left; (focus (first | (go_simp; done) | (go_simp; with_reducible rfl))); simp only [Act.put, List.setIfInBounds_toArray, List.set_cons_zero, List.set_cons_succ]
            refine wpAnyH_done (by kernel_rfl) ?_ _
            clear hS hc5
            go_wp2_with fail
            go_ret2
            exact RGetPost.ok (by rw [Hfin.out, if_pos ⟨HL.out, HP.out⟩]) (hk5.own (hown'.drew) (fun _ _ => not_No _)) (hkr.drew.transNo hk5)
          · have hne : (putRuns out == b) = false := by simp [hP]
            have HP := Lib.hid hP
            clear hP
            go_wp2_with fail
            refine wp_region_held_drew (S := fun wx => (convert 22 9 (.slice a i c)).run Tryz.prog wx = .ok (.string ⟨b.toArray⟩) wx) (by kernel_rfl) ((hsr.kept (Keeps.refl No wr).drew).str _ _ _ Tryz.underlying22 Tryz.underlying5 Tryz.underlying9) (fun hS => ?_)
            refine tk (i := 0) (oi := ⟨some 74, _, _, _, _, _⟩) (v := ?_) rfl (by kernel_rfl) (fun _ _ _ h => h) (by assumption) (by rfl) (fun w hSw => ?_) ?_; rotate_left; (focus (first | (go_simp; done) | (go_simp; with_reducible rfl))); simp only [Act.put, List.setIfInBounds_toArray, List.set_cons_zero, List.set_cons_succ]
            refine tk (i := 1) (oi := ⟨some 75, _, _, _, _, _⟩) (v := ?_) rfl (by kernel_rfl) (fun _ _ _ h => h) (by assumption) (by rfl) (fun w hSw => ?_) ?_; rotate_left; (focus (first | (go_simp; done) | (go_simp; with_reducible rfl))); simp only [Act.put, List.setIfInBounds_toArray, List.set_cons_zero, List.set_cons_succ]
            refine tk (i := 2) (oi := ⟨some 76, _, _, _, _, _⟩) (v := ?_) rfl (by kernel_rfl) (fun _ _ _ h => h) (by assumption) (by rfl) (fun w hSw => ?_) ?_; rotate_left; (focus (first | (go_simp; done) | (go_simp; with_reducible rfl))); simp only [Act.put, List.setIfInBounds_toArray, List.set_cons_zero, List.set_cons_succ]
            refine tk (i := 3) (oi := ⟨some 77, _, _, _, _, _⟩) (v := ?_) rfl (by kernel_rfl) (fun _ _ _ h => h) (by assumption) (by rfl) (fun w hSw => ?_) ?_; rotate_left; (focus (first | (go_simp; done) | (go_simp; with_reducible rfl))); simp only [Act.put, List.setIfInBounds_toArray, List.set_cons_zero, List.set_cons_succ]
            refine tk (i := 4) (oi := ⟨some 78, _, _, _, _, _⟩) (v := ?_) rfl (by kernel_rfl) (fun _ _ _ h => h) (by assumption) (by rfl) (fun w hSw => ?_) ?_; rotate_left; (focus (first | (go_simp; done) | (go_simp; with_reducible rfl))); simp only [Act.put, List.setIfInBounds_toArray, List.set_cons_zero, List.set_cons_succ]
            refine tk (i := 5) (oi := ⟨some 79, _, _, _, _, _⟩) (v := ?_) rfl (by kernel_rfl) (fun _ _ _ h => h) (by assumption) (by rfl) (fun w hSw => ?_) ?_; rotate_left; (focus (first | (go_simp; done) | (go_simp; with_reducible rfl))); simp only [Act.put, List.setIfInBounds_toArray, List.set_cons_zero, List.set_cons_succ]
            refine tk (i := 8) (oi := ⟨some 82, _, _, _, _, _⟩) (v := ?_) rfl (by kernel_rfl) (fun _ _ _ h => h) (by assumption) (by rfl) (fun w hSw => ?_) ?_; rotate_left; (focus (first | (go_simp; done) | (go_simp; with_reducible rfl))); simp only [Act.put, List.setIfInBounds_toArray, List.set_cons_zero, List.set_cons_succ]
            refine tk (i := 9) (oi := ⟨some 83, _, _, _, _, _⟩) (v := ?_) rfl (by kernel_rfl) (fun _ _ _ h => h) (by assumption) (by rfl) (fun w hSw => ?_) ?_; rotate_left; (focus (first | (go_simp; done) | (go_simp; with_reducible rfl))); simp only [Act.put, List.setIfInBounds_toArray, List.set_cons_zero, List.set_cons_succ]
            refine alone (i := 6) (oi := ⟨some 80, _, _, _, _, _⟩) rfl (by kernel_rfl) (by rfl) (fun K hK => ?_); go_simp
            refine (refRPut_any _ _ _ out _ (hso.kept (Keeps.refl No wr).drew) Hwf.out (by omega)).mono ?_
            rintro e w5 ⟨a5, m5, c5, rfl, hs5, -, hk5⟩
            have hc5 := hs5.str (P := Tryz.prog) 22 9 _ Tryz.underlying22 Tryz.underlying5 Tryz.underlying9
            refine hK.out (fun wx => (convert 22 9 (.slice a i c)).run Tryz.prog wx = .ok (.string ⟨b.toArray⟩) wx) _ _ (fun _ h => h) ((hsr.kept ((Keeps.refl No wr).drew.transNo hk5)).str _ _ _ Tryz.underlying22 Tryz.underlying5 Tryz.underlying9) ?_
            clear hK K hS
            intro hS
            refine alone (i := 7) (oi := ⟨some 81, _, _, _, _, _⟩) rfl (by kernel_rfl) (by rfl) (fun K hK => ?_); go_simp
            refine hK.out (fun wx => (convert 22 9 (.slice a i c)).run Tryz.prog wx = .ok (.string ⟨b.toArray⟩) wx) _ _ (fun _ h => h) (hS) ?_
            clear hK K hS
            intro hS
            refine tk (i := 10) (oi := ⟨some 84, _, _, _, _, _⟩) (v := ?_) rfl (by kernel_rfl) (fun _ _ _ h => h) (by assumption) (by rfl) (fun w hSw => ?_) ?_; rotate_left; (focus (first | (go_simp; done) | (go_simp; with_reducible rfl))); simp only [Act.put, List.setIfInBounds_toArray, List.set_cons_zero, List.set_cons_succ]
            refine tk (i := 11) (oi := ⟨some 85, _, _, _, _, _⟩) (v := ?_) rfl (by kernel_rfl) (fun _ _ _ h => h) (by assumption) (by rfl) (fun w hSw => ?_) ?_; rotate_left; (focus (first | (go_simp; done) | (go_simp; with_reducible rfl))); simp only [Act.put, List.setIfInBounds_toArray, List.set_cons_zero, List.set_cons_succ]
            refine wpAnyH_done (by kernel_rfl) ?_ _
            clear hS hc5
            go_wp2_with fail
            go_ret2
            exact RGetPost.no (by rw [Hfin.out, if_neg (fun h => HP.out h.2)]) (hkr.drew.transNo hk5)
        · have hl' : ((out.length : Int) != (N : Int)) = true := by simp; omega
          have HL := Lib.hid hl
          clear hl
          go_wp2_with fail
          refine wp_region_held_drew (S := fun wx => True) (by kernel_rfl) (trivial) (fun hS => ?_)
          refine tk (i := 0) (oi := ⟨some 74, _, _, _, _, _⟩) (v := ?_) rfl (by kernel_rfl) (fun _ _ _ h => h) (by assumption) (by rfl) (fun w hSw => ?_) ?_; rotate_left; (focus (first | (go_simp; done) | (go_simp; with_reducible rfl))); simp only [Act.put, List.setIfInBounds_toArray, List.set_cons_zero, List.set_cons_succ]
          refine tk (i := 1) (oi := ⟨some 75, _, _, _, _, _⟩) (v := ?_) rfl (by kernel_rfl) (fun _ _ _ h => h) (by assumption) (by rfl) (fun w hSw => ?_) ?_; rotate_left; (focus (first | (go_simp; done) | (go_simp; with_reducible rfl))); simp only [Act.put, List.setIfInBounds_toArray, List.set_cons_zero, List.set_cons_succ]
          refine tk (i := 2) (oi := ⟨some 76, _, _, _, _, _⟩) (v := ?_) rfl (by kernel_rfl) (fun _ _ _ h => h) (by assumption) (by rfl) (fun w hSw => ?_) ?_; rotate_left; (focus (first | (go_simp; done) | (go_simp; with_reducible rfl))); simp only [Act.put, List.setIfInBounds_toArray, List.set_cons_zero, List.set_cons_succ]
          refine tk (i := 3) (oi := ⟨some 77, _, _, _, _, _⟩) (v := ?_) rfl (by kernel_rfl) (fun _ _ _ h => h) (by assumption) (by rfl) (fun w hSw => ?_) ?_; rotate_left; (focus (first | (go_simp; done) | (go_simp; with_reducible rfl))); simp only [Act.put, List.setIfInBounds_toArray, List.set_cons_zero, List.set_cons_succ]
          refine tk (i := 4) (oi := ⟨some 78, _, _, _, _, _⟩) (v := ?_) rfl (by kernel_rfl) (fun _ _ _ h => h) (by assumption) (by rfl) (fun w hSw => ?_) ?_; rotate_left; (focus (first | (go_simp; done) | (go_simp; with_reducible rfl))); simp only [Act.put, List.setIfInBounds_toArray, List.set_cons_zero, List.set_cons_succ]
          refine tkNot (i := 5) (oi := ⟨some 79, _, _, _, _, _⟩) rfl (by kernel_rfl) (fun _ _ _ h => h) (by assumption) (by rfl) ?_; simp only [Act.put, List.setIfInBounds_toArray, List.set_cons_zero, List.set_cons_succ]
          refine tkNot (i := 6) (oi := ⟨some 80, _, _, _, _, _⟩) rfl (by kernel_rfl) (fun _ _ _ h => h) (by assumption) (by rfl) ?_; simp only [Act.put, List.setIfInBounds_toArray, List.set_cons_zero, List.set_cons_succ]
          refine tkNot (i := 7) (oi := ⟨some 81, _, _, _, _, _⟩) rfl (by kernel_rfl) (fun _ _ _ h => h) (by assumption) (by rfl) ?_; simp only [Act.put, List.setIfInBounds_toArray, List.set_cons_zero, List.set_cons_succ]
          refine tkNot (i := 8) (oi := ⟨some 82, _, _, _, _, _⟩) rfl (by kernel_rfl) (fun _ _ _ h => h) (by assumption) (by rfl) ?_; simp only [Act.put, List.setIfInBounds_toArray, List.set_cons_zero, List.set_cons_succ]
          refine tkNot (i := 9) (oi := ⟨some 83, _, _, _, _, _⟩) rfl (by kernel_rfl) (fun _ _ _ h => h) (by assumption) (by rfl) ?_; simp only [Act.put, List.setIfInBounds_toArray, List.set_cons_zero, List.set_cons_succ]
          refine tkNot (i := 10) (oi := ⟨some 84, _, _, _, _, _⟩) rfl (by kernel_rfl) (fun _ _ _ h => h) (by assumption) (by rfl) ?_; simp only [Act.put, List.setIfInBounds_toArray, List.set_cons_zero, List.set_cons_succ]
          refine tk (i := 11) (oi := ⟨some 85, _, _, _, _, _⟩) (v := ?_) rfl (by kernel_rfl) (fun _ _ _ h => h) (by assumption) (by rfl) (fun w hSw => ?_) ?_; rotate_left; (focus (first | (go_simp; done) | (go_simp; with_reducible rfl))); simp only [Act.put, List.setIfInBounds_toArray, List.set_cons_zero, List.set_cons_succ]
          refine wpAnyH_done (by kernel_rfl) ?_ _
          go_wp2_with fail
          go_ret2
          exact RGetPost.no (by rw [Hfin.out, if_neg (fun h => HL.out h.1)]) hkr.drew
end Go.Proofs.YthbipcjgpocpaaaGreat
