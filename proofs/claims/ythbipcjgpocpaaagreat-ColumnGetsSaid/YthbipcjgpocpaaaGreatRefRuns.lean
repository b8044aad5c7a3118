/- The walks of the document's answer for runs: Put, Same. -/
import Derived.Test.YthbipcjgpocpaaaGreatPlainRuns
import Derived.Test.YthbipcjgpocpaaaGreatRefPack
import Derived.Test.YthbipcjgpocpaaaGreatRefPackR
import Derived.Test.YthbipcjgpocpaaaGreatMem
import Derived.Test.YthbipcjgpocpaaaGreatOrd
import Derived.Deep.LoopGhost
import Derived.Deep.DeepCutAuto
import Derived.Deep.CutBlock
namespace Go.Proofs.YthbipcjgpocpaaaGreat
open Go.RowKit
set_option linter.unusedSimpArgs false
set_option linter.unusedVariables false

theorem runsOf_rep (l : List Int) (x : Int) (k : Nat) (hk : 0 < k) (h : ∀ y, (runsOf l).getLast? = some y → y.1 ≠ x) : runsOf (l ++ List.replicate k x) = runsOf l ++ [(x, k)] := by
  obtain ⟨k, rfl⟩ : ∃ q, k = q + 1 := ⟨k - 1, by omega⟩
  show (l ++ List.replicate (k + 1) x).foldl addRun [] = _
  rw [List.foldl_append, List.replicate_succ, List.foldl_cons]
  show List.foldl addRun (addRun (runsOf l) x) (List.replicate k x) = _
  rw [addRun_other _ _ h, foldl_replicate, Nat.add_comm 1 k]
theorem runsOf_last (l : List Int) (y : Int × Nat) (h : (runsOf l).getLast? = some y) : l.getLast? = some y.1 := by
  cases hl : l.getLast? with
  | none =>
    have : l = [] := by simpa using hl
    subst this
    simp [runsOf] at h
  | some x =>
    obtain ⟨t, rfl⟩ := List.getLast?_eq_some_iff.1 hl
    rw [runsOf_snoc] at h
    have := addRun_last (runsOf t) x
    rw [h] at this
    simp at this
    rw [this]

set_option maxRecDepth 100000 in
set_option maxHeartbeats 4000000 in
theorem refRPut_any (a : Option Addr) (n c : Nat) (L : List Int) (w : World) (hs : Sl w a n c (L.map intV)) (hw : ∀ x ∈ L, (Lit.int .i64 x).wf = true) (hn : n ≤ 1000) :
    Calls Tryz.prog 63 #[.slice a n c] w fun e w' => ∃ a' m c', e = .returned (.slice a' m c') ∧ Sl w' a' m c' ((putRuns L).map byteV) ∧ (∀ y, a' = some y → w.heap.size ≤ y.block) ∧ Keeps No w w' := by
  have hlen : L.length = n := by simpa using hs.len
  have Hlen := Lib.hid hlen
  have Hw := Lib.hid hw
  clear hlen hw
  go_enter Tryz.func63, Tryz.ntmps63
  go_wp2_with fail
  go_loopg [3, 4, 5] n (fun q v3 v4 v5 wr => ∃ (i : Nat) (v : Value) (R : List (Int × Nat)) (D : List UInt8), v4 = v ∧ v5 = .int .i64 (i : Int) ∧ v3 = .int .i64 (R.length : Int) ∧ i ≤ n ∧ q = n - i ∧ R = runsOf (L.take i) ∧ R.length ≤ i ∧ D = R.flatMap runB ∧ D.length ≤ 20 * i ∧ (∀ (hi : i < L.length) x, (L.take i).getLast? = some x → x ≠ L[i]) ∧ wr.ownsRow w.heap.size 5 1 v D.length (D.map byteV) ∧ Keeps No w wr)
  case atStart => exact ⟨0, _, [], [], rfl, rfl, rfl, Nat.zero_le _, rfl, rfl, Nat.le_refl _, rfl, Nat.le_refl _, (fun hi x h => by simp at h), World.ownsRow_nil _ _ _ _, Keeps.refl _ _⟩
  case round =>
    obtain ⟨i, v, R, D, rfl, rfl, rfl, hi, hq, hR, hRl, hD, hDl, hnx, hown, hkr⟩ := hrel
    have Hq := Lib.hid hq
    have HR := Lib.hid hR
    have HD := Lib.hid hD
    have Hnx := Lib.hid hnx
    clear hq hR hD hnx
    have hzr := hkr.size
    by_cases hlt : i < n
    · have hiL : i < L.length := by rw [Hlen.out]; exact hlt
      have hsr := hs.kept hkr
      have hixi := hsr.ix (P := Tryz.prog) Tryz.underlying63 (by kernel_rfl) hlt .i64
      have hci := hsr.at_ hlt
      obtain ⟨x, hx⟩ : ∃ x, x = L[i] := ⟨_, rfl⟩
      have hbi : (L.map intV).getD i undef = .int .i64 x := by rw [hx]; simp [hiL, intV]
      rw [hbi] at hci
      have hxw : (Lit.int .i64 x).wf = true := Hw.out _ (by rw [hx]; exact List.getElem_mem hiL)
      have Hx := Lib.hid hx
      clear hx hbi
      go_upto_block 2 with fail
      go_cut [6] (fun v6 wx => ∃ (k : Nat), v6 = .int .i64 (k : Int) ∧ i < k ∧ k ≤ n ∧ L.take k = L.take i ++ List.replicate (k - i) x ∧ (∀ (hk : k < L.length), x ≠ L[k]) ∧ Keeps No wr wx)
      case first =>
        go_wp2_with fail
        go_loopg [6] (n + 1 - i) (fun q v6 wx => ∃ (k : Nat), v6 = .int .i64 (k : Int) ∧ i ≤ k ∧ k ≤ n ∧ q = n + 1 - k ∧ L.take k = L.take i ++ List.replicate (k - i) x ∧ Keeps No wr wx)
        case atStart => exact ⟨i, rfl, Nat.le_refl _, hi, rfl, by simp, Keeps.refl _ _⟩
        case round =>
          obtain ⟨k, rfl, hik, hkn, hqk, htk, hkk⟩ := hrel
          have Htk := Lib.hid htk
          have Hqk := Lib.hid hqk
          clear htk hqk
          by_cases hkl : k < n
          · have hkL : k < L.length := by rw [Hlen.out]; exact hkl
            have hsk := hsr.kept hkk
            have hixk := hsr.ix (P := Tryz.prog) Tryz.underlying63 (by kernel_rfl) hkl .i64
            have hck := hsk.at_ hkl
            have hci' := hsk.at_ hlt
            obtain ⟨y, hy⟩ : ∃ y, y = L[k] := ⟨_, rfl⟩
            have hbk : (L.map intV).getD k undef = .int .i64 y := by rw [hy]; simp [hkL, intV]
            have hbi' : (L.map intV).getD i undef = .int .i64 x := by rw [Hx.out]; simp [hiL, intV]
            rw [hbk] at hck
            rw [hbi'] at hci'
            have Hy := Lib.hid hy
            clear hy hbk hbi'
            by_cases hxy : y = x
            · have he : (y == x) = true := by simp [hxy]
              have Hxy := Lib.hid hxy
              clear hxy
              go_wp2_with fail
              refine wp_region_held_drew (S := fun wx => wx.cell? ((a.getD default).add k) = some (.int .i64 y) ∧ wx.cell? ((a.getD default).add i) = some (.int .i64 x)) (by kernel_rfl) (⟨hck, hci'⟩) (fun hS => ?_)
              refine tk (i := 0) (oi := ⟨some 12, _, _, _, _, _⟩) (v := ?_) rfl (by kernel_rfl) (fun _ _ _ h => h) (by assumption) (by rfl) (fun w hSw => ?_) ?_; rotate_left; (focus (first | (go_simp; done) | (go_simp; with_reducible rfl))); simp only [Act.put, List.setIfInBounds_toArray, List.set_cons_zero, List.set_cons_succ]
              refine tk (i := 1) (oi := ⟨some 13, _, _, _, _, _⟩) (v := ?_) rfl (by kernel_rfl) (fun _ _ _ h => h) (by assumption) (by rfl) (fun w hSw => ?_) ?_; rotate_left; (focus (first | (go_simp; done) | (go_simp; with_reducible rfl))); simp only [Act.put, List.setIfInBounds_toArray, List.set_cons_zero, List.set_cons_succ]
              refine tk (i := 2) (oi := ⟨some 14, _, _, _, _, _⟩) (v := ?_) rfl (by kernel_rfl) (fun _ _ _ h => h) (by assumption) (by rfl) (fun w hSw => ?_) ?_; rotate_left; (focus (first | (go_simp; done) | (go_simp; with_reducible rfl))); simp only [Act.put, List.setIfInBounds_toArray, List.set_cons_zero, List.set_cons_succ]
              refine tk (i := 3) (oi := ⟨some 15, _, _, _, _, _⟩) (v := ?_) rfl (by kernel_rfl) (fun _ _ _ h => h) (by assumption) (by rfl) (fun w hSw => ?_) ?_; rotate_left; (focus (first | (go_simp; done) | (go_simp; with_reducible rfl))); simp only [Act.put, List.setIfInBounds_toArray, List.set_cons_zero, List.set_cons_succ]
              refine tk (i := 4) (oi := ⟨some 16, _, _, _, _, _⟩) (v := ?_) rfl (by kernel_rfl) (fun _ _ _ h => h) (by assumption) (by rfl) (fun w hSw => ?_) ?_; rotate_left; (focus (first | (go_simp; done) | (go_simp; with_reducible rfl))); simp only [Act.put, List.setIfInBounds_toArray, List.set_cons_zero, List.set_cons_succ]
              refine tk (i := 5) (oi := ⟨some 17, _, _, _, _, _⟩) (v := ?_) rfl (by kernel_rfl) (fun _ _ _ h => h) (by assumption) (by rfl) (fun w hSw => ?_) ?_; rotate_left; (focus (first | (go_simp; done) | (go_simp; with_reducible rfl))); simp only [Act.put, List.setIfInBounds_toArray, List.set_cons_zero, List.set_cons_succ]
              refine tk (i := 6) (oi := ⟨some 18, _, _, _, _, _⟩) (v := ?_) rfl (by kernel_rfl) (fun _ _ _ h => h) (by assumption) (by rfl) (fun w hSw => ?_) ?_; rotate_left; (focus (first | (go_simp; done) | (go_simp; with_reducible rfl))); simp only [Act.put, List.setIfInBounds_toArray, List.set_cons_zero, List.set_cons_succ]
              refine tk (i := 7) (oi := ⟨some 19, _, _, _, _, _⟩) (v := ?_) rfl (by kernel_rfl) (fun _ _ _ h => h) (by assumption) (by rfl) (fun w hSw => ?_) ?_; rotate_left; (focus (first | (go_simp; done) | (go_simp; with_reducible rfl))); simp only [Act.put, List.setIfInBounds_toArray, List.set_cons_zero, List.set_cons_succ]
              refine tk (i := 8) (oi := ⟨some 20, _, _, _, _, _⟩) (v := ?_) rfl (by kernel_rfl) (fun _ _ _ h => h) (by assumption) (by rfl) (fun w hSw => ?_) ?_; rotate_left; (focus (first | (go_simp; done) | (go_simp; with_reducible rfl))); simp only [Act.put, List.setIfInBounds_toArray, List.set_cons_zero, List.set_cons_succ]
              refine tk (i := 9) (oi := ⟨some 21, _, _, _, _, _⟩) (v := ?_) rfl (by kernel_rfl) (fun _ _ _ h => h) (by assumption) (by rfl) (fun w hSw => ?_) ?_; rotate_left; (focus (first | (go_simp; done) | (go_simp; with_reducible rfl))); simp only [Act.put, List.setIfInBounds_toArray, List.set_cons_zero, List.set_cons_succ]
              refine tk (i := 10) (oi := ⟨some 22, _, _, _, _, _⟩) (v := ?_) rfl (by kernel_rfl) (fun _ _ _ h => h) (by assumption) (by rfl) (fun w hSw => ?_) ?_; rotate_left; (focus (first | (go_simp; done) | (go_simp; with_reducible rfl))); simp only [Act.put, List.setIfInBounds_toArray, List.set_cons_zero, List.set_cons_succ]
              refine tk (i := 11) (oi := ⟨some 23, _, _, _, _, _⟩) (v := ?_) rfl (by kernel_rfl) (fun _ _ _ h => h) (by assumption) (by rfl) (fun w hSw => ?_) ?_; rotate_left; (focus (first | (go_simp; done) | (go_simp; with_reducible rfl))); simp only [Act.put, List.setIfInBounds_toArray, List.set_cons_zero, List.set_cons_succ]
              refine tk (i := 12) (oi := ⟨some 24, _, _, _, _, _⟩) (v := ?_) rfl (by kernel_rfl) (fun _ _ _ h => h) (by assumption) (by rfl) (fun w hSw => ?_) ?_; rotate_left; (focus (first | (go_simp; done) | (go_simp; with_reducible rfl))); simp only [Act.put, List.setIfInBounds_toArray, List.set_cons_zero, List.set_cons_succ]
              refine tk (i := 13) (oi := ⟨some 25, _, _, _, _, _⟩) (v := ?_) rfl (by kernel_rfl) (fun _ _ _ h => h) (by assumption) (by rfl) (fun w hSw => ?_) ?_; rotate_left; (focus (first | (go_simp; done) | (go_simp; with_reducible rfl))); simp only [Act.put, List.setIfInBounds_toArray, List.set_cons_zero, List.set_cons_succ]
              refine tk (i := 14) (oi := ⟨some 26, _, _, _, _, _⟩) (v := ?_) rfl (by kernel_rfl) (fun _ _ _ h => h) (by assumption) (by rfl) (fun w hSw => ?_) ?_; rotate_left; (focus (first | (go_simp; done) | (go_simp; with_reducible rfl))); simp only [Act.put, List.setIfInBounds_toArray, List.set_cons_zero, List.set_cons_succ]
              refine wpAnyH_done (by kernel_rfl) ?_ _
              go_wp2_with fail
              go_roundg (n + 1 - (k + 1))
              case rel =>
                refine ⟨k + 1, by go_num, by omega, by omega, rfl, ?_, hkk.drew⟩
                rw [List.take_succ_eq_append_getElem hkL, Htk.out, ← Hy.out, Hxy.out, show k + 1 - i = (k - i) + 1 from by omega, List.replicate_succ', List.append_assoc]
              case measure => have := Hqk.out; omega
            · have he : (y == x) = false := by simp [hxy]
              have Hxy := Lib.hid hxy
              have hki : i < k := by
                rcases Nat.lt_or_ge i k with h | h
                · exact h
                · have : k = i := by omega
                  subst this
                  exact absurd (Hy.out.trans Hx.out.symm) hxy
              clear hxy
              go_wp2_with fail
              refine wp_region_held_drew (S := fun wx => wx.cell? ((a.getD default).add k) = some (.int .i64 y) ∧ wx.cell? ((a.getD default).add i) = some (.int .i64 x)) (by kernel_rfl) (⟨hck, hci'⟩) (fun hS => ?_)
              refine tk (i := 0) (oi := ⟨some 12, _, _, _, _, _⟩) (v := ?_) rfl (by kernel_rfl) (fun _ _ _ h => h) (by assumption) (by rfl) (fun w hSw => ?_) ?_; rotate_left; (focus (first | (go_simp; done) | (go_simp; with_reducible rfl))); simp only [Act.put, List.setIfInBounds_toArray, List.set_cons_zero, List.set_cons_succ]
              refine tk (i := 1) (oi := ⟨some 13, _, _, _, _, _⟩) (v := ?_) rfl (by kernel_rfl) (fun _ _ _ h => h) (by assumption) (by rfl) (fun w hSw => ?_) ?_; rotate_left; (focus (first | (go_simp; done) | (go_simp; with_reducible rfl))); simp only [Act.put, List.setIfInBounds_toArray, List.set_cons_zero, List.set_cons_succ]
              refine tk (i := 2) (oi := ⟨some 14, _, _, _, _, _⟩) (v := ?_) rfl (by kernel_rfl) (fun _ _ _ h => h) (by assumption) (by rfl) (fun w hSw => ?_) ?_; rotate_left; (focus (first | (go_simp; done) | (go_simp; with_reducible rfl))); simp only [Act.put, List.setIfInBounds_toArray, List.set_cons_zero, List.set_cons_succ]
              refine tk (i := 3) (oi := ⟨some 15, _, _, _, _, _⟩) (v := ?_) rfl (by kernel_rfl) (fun _ _ _ h => h) (by assumption) (by rfl) (fun w hSw => ?_) ?_; rotate_left; (focus (first | (go_simp; done) | (go_simp; with_reducible rfl))); simp only [Act.put, List.setIfInBounds_toArray, List.set_cons_zero, List.set_cons_succ]
              refine tk (i := 4) (oi := ⟨some 16, _, _, _, _, _⟩) (v := ?_) rfl (by kernel_rfl) (fun _ _ _ h => h) (by assumption) (by rfl) (fun w hSw => ?_) ?_; rotate_left; (focus (first | (go_simp; done) | (go_simp; with_reducible rfl))); simp only [Act.put, List.setIfInBounds_toArray, List.set_cons_zero, List.set_cons_succ]
              refine tk (i := 5) (oi := ⟨some 17, _, _, _, _, _⟩) (v := ?_) rfl (by kernel_rfl) (fun _ _ _ h => h) (by assumption) (by rfl) (fun w hSw => ?_) ?_; rotate_left; (focus (first | (go_simp; done) | (go_simp; with_reducible rfl))); simp only [Act.put, List.setIfInBounds_toArray, List.set_cons_zero, List.set_cons_succ]
              refine tk (i := 6) (oi := ⟨some 18, _, _, _, _, _⟩) (v := ?_) rfl (by kernel_rfl) (fun _ _ _ h => h) (by assumption) (by rfl) (fun w hSw => ?_) ?_; rotate_left; (focus (first | (go_simp; done) | (go_simp; with_reducible rfl))); simp only [Act.put, List.setIfInBounds_toArray, List.set_cons_zero, List.set_cons_succ]
              refine tk (i := 7) (oi := ⟨some 19, _, _, _, _, _⟩) (v := ?_) rfl (by kernel_rfl) (fun _ _ _ h => h) (by assumption) (by rfl) (fun w hSw => ?_) ?_; rotate_left; (focus (first | (go_simp; done) | (go_simp; with_reducible rfl))); simp only [Act.put, List.setIfInBounds_toArray, List.set_cons_zero, List.set_cons_succ]
              refine tk (i := 8) (oi := ⟨some 20, _, _, _, _, _⟩) (v := ?_) rfl (by kernel_rfl) (fun _ _ _ h => h) (by assumption) (by rfl) (fun w hSw => ?_) ?_; rotate_left; (focus (first | (go_simp; done) | (go_simp; with_reducible rfl))); simp only [Act.put, List.setIfInBounds_toArray, List.set_cons_zero, List.set_cons_succ]
              refine tk (i := 9) (oi := ⟨some 21, _, _, _, _, _⟩) (v := ?_) rfl (by kernel_rfl) (fun _ _ _ h => h) (by assumption) (by rfl) (fun w hSw => ?_) ?_; rotate_left; (focus (first | (go_simp; done) | (go_simp; with_reducible rfl))); simp only [Act.put, List.setIfInBounds_toArray, List.set_cons_zero, List.set_cons_succ]
              refine tk (i := 10) (oi := ⟨some 22, _, _, _, _, _⟩) (v := ?_) rfl (by kernel_rfl) (fun _ _ _ h => h) (by assumption) (by rfl) (fun w hSw => ?_) ?_; rotate_left; (focus (first | (go_simp; done) | (go_simp; with_reducible rfl))); simp only [Act.put, List.setIfInBounds_toArray, List.set_cons_zero, List.set_cons_succ]
              refine tk (i := 11) (oi := ⟨some 23, _, _, _, _, _⟩) (v := ?_) rfl (by kernel_rfl) (fun _ _ _ h => h) (by assumption) (by rfl) (fun w hSw => ?_) ?_; rotate_left; (focus (first | (go_simp; done) | (go_simp; with_reducible rfl))); simp only [Act.put, List.setIfInBounds_toArray, List.set_cons_zero, List.set_cons_succ]
              refine tk (i := 12) (oi := ⟨some 24, _, _, _, _, _⟩) (v := ?_) rfl (by kernel_rfl) (fun _ _ _ h => h) (by assumption) (by rfl) (fun w hSw => ?_) ?_; rotate_left; (focus (first | (go_simp; done) | (go_simp; with_reducible rfl))); simp only [Act.put, List.setIfInBounds_toArray, List.set_cons_zero, List.set_cons_succ]
              refine tk (i := 13) (oi := ⟨some 25, _, _, _, _, _⟩) (v := ?_) rfl (by kernel_rfl) (fun _ _ _ h => h) (by assumption) (by rfl) (fun w hSw => ?_) ?_; rotate_left; (focus (first | (go_simp; done) | (go_simp; with_reducible rfl))); simp only [Act.put, List.setIfInBounds_toArray, List.set_cons_zero, List.set_cons_succ]
              refine tk (i := 14) (oi := ⟨some 26, _, _, _, _, _⟩) (v := ?_) rfl (by kernel_rfl) (fun _ _ _ h => h) (by assumption) (by rfl) (fun w hSw => ?_) ?_; rotate_left; (focus (first | (go_simp; done) | (go_simp; with_reducible rfl))); simp only [Act.put, List.setIfInBounds_toArray, List.set_cons_zero, List.set_cons_succ]
              refine wpAnyH_done (by kernel_rfl) ?_ _
              go_wp2_with fail
              go_meet
              exact ⟨k, rfl, hki, hkn, Htk.out, fun hk e => Hxy.out (by rw [Hy.out, e]), hkk.drew⟩
          · obtain rfl : k = n := by omega
            go_wp2_with fail
            refine wp_region_held_drew (S := fun wx => True) (by kernel_rfl) (trivial) (fun hS => ?_)
            refine tk (i := 0) (oi := ⟨some 12, _, _, _, _, _⟩) (v := ?_) rfl (by kernel_rfl) (fun _ _ _ h => h) (by assumption) (by rfl) (fun w hSw => ?_) ?_; rotate_left; (focus (first | (go_simp; done) | (go_simp; with_reducible rfl))); simp only [Act.put, List.setIfInBounds_toArray, List.set_cons_zero, List.set_cons_succ]
            refine tk (i := 1) (oi := ⟨some 13, _, _, _, _, _⟩) (v := ?_) rfl (by kernel_rfl) (fun _ _ _ h => h) (by assumption) (by rfl) (fun w hSw => ?_) ?_; rotate_left; (focus (first | (go_simp; done) | (go_simp; with_reducible rfl))); simp only [Act.put, List.setIfInBounds_toArray, List.set_cons_zero, List.set_cons_succ]
            refine tk (i := 2) (oi := ⟨some 14, _, _, _, _, _⟩) (v := ?_) rfl (by kernel_rfl) (fun _ _ _ h => h) (by assumption) (by rfl) (fun w hSw => ?_) ?_; rotate_left; (focus (first | (go_simp; done) | (go_simp; with_reducible rfl))); simp only [Act.put, List.setIfInBounds_toArray, List.set_cons_zero, List.set_cons_succ]
            refine tk (i := 3) (oi := ⟨some 15, _, _, _, _, _⟩) (v := ?_) rfl (by kernel_rfl) (fun _ _ _ h => h) (by assumption) (by rfl) (fun w hSw => ?_) ?_; rotate_left; (focus (first | (go_simp; done) | (go_simp; with_reducible rfl))); simp only [Act.put, List.setIfInBounds_toArray, List.set_cons_zero, List.set_cons_succ]
            refine tk (i := 4) (oi := ⟨some 16, _, _, _, _, _⟩) (v := ?_) rfl (by kernel_rfl) (fun _ _ _ h => h) (by assumption) (by rfl) (fun w hSw => ?_) ?_; rotate_left; (focus (first | (go_simp; done) | (go_simp; with_reducible rfl))); simp only [Act.put, List.setIfInBounds_toArray, List.set_cons_zero, List.set_cons_succ]
            refine tkNot (i := 5) (oi := ⟨some 17, _, _, _, _, _⟩) rfl (by kernel_rfl) (fun _ _ _ h => h) (by assumption) (by rfl) ?_; simp only [Act.put, List.setIfInBounds_toArray, List.set_cons_zero, List.set_cons_succ]
            refine tkNot (i := 6) (oi := ⟨some 18, _, _, _, _, _⟩) rfl (by kernel_rfl) (fun _ _ _ h => h) (by assumption) (by rfl) ?_; simp only [Act.put, List.setIfInBounds_toArray, List.set_cons_zero, List.set_cons_succ]
            refine tkNot (i := 7) (oi := ⟨some 19, _, _, _, _, _⟩) rfl (by kernel_rfl) (fun _ _ _ h => h) (by assumption) (by rfl) ?_; simp only [Act.put, List.setIfInBounds_toArray, List.set_cons_zero, List.set_cons_succ]
            refine tkNot (i := 8) (oi := ⟨some 20, _, _, _, _, _⟩) rfl (by kernel_rfl) (fun _ _ _ h => h) (by assumption) (by rfl) ?_; simp only [Act.put, List.setIfInBounds_toArray, List.set_cons_zero, List.set_cons_succ]
            refine tkNot (i := 9) (oi := ⟨some 21, _, _, _, _, _⟩) rfl (by kernel_rfl) (fun _ _ _ h => h) (by assumption) (by rfl) ?_; simp only [Act.put, List.setIfInBounds_toArray, List.set_cons_zero, List.set_cons_succ]
            refine tkNot (i := 10) (oi := ⟨some 22, _, _, _, _, _⟩) rfl (by kernel_rfl) (fun _ _ _ h => h) (by assumption) (by rfl) ?_; simp only [Act.put, List.setIfInBounds_toArray, List.set_cons_zero, List.set_cons_succ]
            refine tkNot (i := 11) (oi := ⟨some 23, _, _, _, _, _⟩) rfl (by kernel_rfl) (fun _ _ _ h => h) (by assumption) (by rfl) ?_; simp only [Act.put, List.setIfInBounds_toArray, List.set_cons_zero, List.set_cons_succ]
            refine tkNot (i := 12) (oi := ⟨some 24, _, _, _, _, _⟩) rfl (by kernel_rfl) (fun _ _ _ h => h) (by assumption) (by rfl) ?_; simp only [Act.put, List.setIfInBounds_toArray, List.set_cons_zero, List.set_cons_succ]
            refine tkNot (i := 13) (oi := ⟨some 25, _, _, _, _, _⟩) rfl (by kernel_rfl) (fun _ _ _ h => h) (by assumption) (by rfl) ?_; simp only [Act.put, List.setIfInBounds_toArray, List.set_cons_zero, List.set_cons_succ]
            refine tk (i := 14) (oi := ⟨some 26, _, _, _, _, _⟩) (v := ?_) rfl (by kernel_rfl) (fun _ _ _ h => h) (by assumption) (by rfl) (fun w hSw => ?_) ?_; rotate_left; (focus (first | (go_simp; done) | (go_simp; with_reducible rfl))); simp only [Act.put, List.setIfInBounds_toArray, List.set_cons_zero, List.set_cons_succ]
            refine wpAnyH_done (by kernel_rfl) ?_ _
            go_wp2_with fail
            go_meet
            exact ⟨k, rfl, hlt, hkn, Htk.out, fun hk => by have := Hlen.out; omega, hkk.drew⟩
      case rest =>
        obtain ⟨k, rfl, hik, hkn, htk, hxk, hkk⟩ := hcut
        have Htk := Lib.hid htk
        have Hxk := Lib.hid hxk
        clear htk hxk
        have hci2 := hci
        have hci := (hsr.kept hkk).at_ hlt
        have hbi' : (L.map intV).getD i undef = .int .i64 x := by rw [Hx.out]; simp [hiL, intV]
        rw [hbi'] at hci
        clear hbi' hci2
        have hownc := hkk.own hown (fun _ _ => not_No _)
        have hzc := hkk.size
        have hkw := hkr.trans hkk (fun _ _ h => h)
        have hfx := fold_lt (wf_i64_iff hxw)
        have h10 := nat7_len64 _ hfx
        have h10' := nat7_len64 (k - i) (by omega)
        have hRi : R.length ≤ i := hRl
        go_wp2_with fail
        refine (folded_any x _ hxw).mono ?_
        rintro e w3 ⟨rfl, rfl⟩
        go_wp2_with fail
        refine (refNat_any (fold x) _ hfx).mono ?_
        rintro e w4 ⟨v4, rfl, hown4, hk4⟩
        obtain ⟨a4, c4, rfl, hs4, hf4⟩ := Sl.ofOwn hown4
        have hz4 := hk4.size
        have hownD := hk4.own hownc (fun _ _ => not_No _)
        go_wp2_with (at_builtin; go_loud (refine app_own rfl _ _ 22 rfl w.heap.size 5 (.int .u8 0) 1 Tryz.underlying22 byte_info rfl (by decide) _ D.length (D.map byteV) rfl hownD _ _ _ _ rfl hs4 ?h1 ?hb ?hB ?_))
        case h1 => exact byteV_one _
        case hb => omega
        case hB => omega
        intro v5 w5 hown5 hg5
        go_wp2_with fail
        have eki : ((k : Int) - (i : Int)) = ((k - i : Nat) : Int) := by omega
        rw [eki]
        refine (refNat_any (k - i) _ (by omega)).mono ?_
        rintro e w6 ⟨v6, rfl, hown6, hk6⟩
        obtain ⟨a6, c6, rfl, hs6, hf6⟩ := Sl.ofOwn hown6
        have hz6 := hk6.size
        have hz5 := hg5.size
        have hownE := hk6.own hown5 (fun _ _ => not_No _)
        go_wp2_with (at_builtin; go_loud (refine app_own rfl _ _ 22 rfl w.heap.size 5 (.int .u8 0) 1 Tryz.underlying22 byte_info rfl (by decide) _ (D.length + (nat7 (fold x)).length) (D.map byteV ++ (nat7 (fold x)).map byteV) rfl hownE _ _ _ _ rfl hs6 ?h1 ?hb ?hB ?_))
        case h1 => exact byteV_one _
        case hb => omega
        case hB => omega
        intro v7 w7 hown7 hg7
        go_wp2_with fail
        go_roundg (n - k)
        case rel =>
          have hne : ∀ y, R.getLast? = some y → y.1 ≠ x := fun y hy e => by
            rw [HR.out] at hy
            exact Hnx.out hiL _ (runsOf_last _ _ hy) (e.trans Hx.out)
          have hR2 : R ++ [(x, k - i)] = runsOf (L.take k) := by
            rw [Htk.out, runsOf_rep _ _ _ (by omega) (fun y hy => hne y (by rw [HR.out]; exact hy)), ← HR.out]
          have hD2 : (R ++ [(x, k - i)]).flatMap runB = D ++ nat7 (fold x) ++ nat7 (k - i) := by rw [HD.out]; simp [runB]
          refine ⟨k, v7, R ++ [(x, k - i)], D ++ nat7 (fold x) ++ nat7 (k - i), rfl, rfl, by simp, hkn, rfl, hR2, by simp; omega, hD2.symm, by simp; omega, ?_, ?_, ?_⟩
          · intro hk y hy e
            rw [Htk.out, show k - i = (k - i - 1) + 1 from by omega, List.replicate_succ', ← List.append_assoc, List.getLast?_concat] at hy
            injection hy with hy
            exact Hxk.out hk (hy.trans e)
          · have e1 : (D ++ nat7 (fold x) ++ nat7 (k - i)).length = D.length + (nat7 (fold x)).length + (nat7 (k - i)).length := by simp [Nat.add_assoc]
            rw [e1, List.map_append, List.map_append, List.append_assoc]
            exact hown7
          · exact (((hkw.trans hk4 (fun _ _ h => h)).grown hg5 (fun q hq hlt => absurd hlt (by have := (hownD.lt q hq).1; omega))).trans hk6 (fun _ _ h => h)).grown hg7 (fun q hq hlt => absurd hlt (by have := (hownE.lt q hq).1; omega))
        case measure => have := Hq.out; omega
    · obtain rfl : i = n := by omega
      have hRL : R = runsOf L := by rw [HR.out, List.take_of_length_le (by rw [Hlen.out]; exact Nat.le_refl _)]
      have h10 := nat7_len64 R.length (by omega)
      have hRn : R.length ≤ 1000 := by omega
      have HRL := Lib.hid hRL
      clear hRL
      go_wp2_with fail
      refine (refNat_any R.length _ (by omega)).mono ?_
      rintro e w4 ⟨v4, rfl, hown4, hk4⟩
      obtain ⟨aD, cD, rfl, hsD, hfD⟩ := Sl.ofOwn hown
      have hz4 := hk4.size
      have hsD4 := hsD.kept hk4
      go_wp2_with (at_builtin; go_loud (refine app_own rfl _ _ 22 rfl wr.heap.size 5 (.int .u8 0) 1 Tryz.underlying22 byte_info rfl (by decide) _ (nat7 R.length).length ((nat7 R.length).map byteV) rfl hown4 _ _ _ _ rfl hsD4 ?h1 ?hb ?hB ?_))
      case h1 => exact byteV_one _
      case hb => omega
      case hB => omega
      intro v5 w5 hown5 hg5
      go_wp2_with fail
      go_ret
      obtain ⟨a5, c5, rfl, hs5, hf5⟩ := Sl.ofOwn hown5
      have hP : putRuns L = nat7 R.length ++ D := by unfold putRuns; rw [HD.out, HRL.out]
      refine ⟨_, _, _, rfl, by rw [hP, List.map_append]; exact hs5, fun y hy => ?_, (hkr.trans hk4 (fun _ _ h => h)).grown hg5 (fun q hq hlt => absurd hlt (by have := (hown4.lt q hq).1; omega))⟩
      obtain ⟨g, rfl, hg, _⟩ := hf5 y hy
      exact Nat.le_trans hzr hg
end Go.Proofs.YthbipcjgpocpaaaGreat
