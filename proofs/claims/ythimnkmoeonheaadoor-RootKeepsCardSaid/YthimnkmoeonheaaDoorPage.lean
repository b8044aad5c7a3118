/- The walks of package page that read: Beside, Handle; bytes.Trim of noughts. -/
import Derived.Test.YthimnkmoeonheaaDoorPlainPage
import Derived.Test.YthimnkmoeonheaaDoorVaultA
import Derived.Test.YthimnkmoeonheaaDoorDevO
import Derived.Test.YthimnkmoeonheaaDoorConv
namespace Go.Proofs.YthimnkmoeonheaaDoor
open Go.RowKit
set_option linter.unusedSimpArgs false
set_option linter.unusedVariables false
set_option maxRecDepth 100000

abbrev PG := K3 × Z64 × Z64
def pgCells (p : PG) : List Value := [.int .i64 p.1.1.1, .int .i64 p.1.2.1.1, .int .i64 p.1.2.2.1, .int .i64 p.2.1.1, .int .i64 p.2.2.1]
def pgNums (p : PG) (b : Int) : List Int := [p.1.1.1, p.1.2.1.1, p.1.2.2.1, p.2.1.1, p.2.2.1, b]
def besideA (p : PG) (b : Int) : List UInt8 := besideL (pgNums p b)
theorem besideA_inj {p q : PG} {a b : Int} (h : besideA p a = besideA q b) : p = q ∧ a = b := by
  have := besideL_inj (pgNums p a) (pgNums q b) [] [] rfl (by rw [List.append_nil, List.append_nil]; exact h)
  obtain ⟨⟨⟨a0, _⟩, ⟨a1, _⟩, ⟨a2, _⟩⟩, ⟨a3, _⟩, ⟨a4, _⟩⟩ := p
  obtain ⟨⟨⟨b0, _⟩, ⟨b1, _⟩, ⟨b2, _⟩⟩, ⟨b3, _⟩, ⟨b4, _⟩⟩ := q
  simp only [pgNums, List.cons.injEq, and_true] at this
  obtain ⟨rfl, rfl, rfl, rfl, rfl, rfl⟩ := this
  exact ⟨rfl, rfl⟩
theorem besideA_len (p : PG) (b : Int) (hb : -9223372036854775808 ≤ b ∧ b ≤ 9223372036854775807) : (besideA p b).length ≤ 60 := by
  refine besideL_len _ fun n hn => ?_
  simp only [pgNums, List.mem_cons, List.mem_nil_iff, or_false] at hn
  rcases hn with rfl | rfl | rfl | rfl | rfl | rfl
  · exact wf_i64_iff p.1.1.2
  · exact wf_i64_iff p.1.2.1.2
  · exact wf_i64_iff p.1.2.2.2
  · exact wf_i64_iff p.2.1.2
  · exact wf_i64_iff p.2.2.2
  · exact hb
theorem pg_cells {w : World} {g : Nat} {p : PG} {t : TypeId} (h : w.heap[g]? = some (.cells (pgCells p).toArray t (0, 0))) :
    w.cell? ⟨g, 0, none⟩ = some (.int .i64 p.1.1.1) ∧ w.cell? ⟨g, 1, none⟩ = some (.int .i64 p.1.2.1.1) ∧ w.cell? ⟨g, 2, none⟩ = some (.int .i64 p.1.2.2.1) ∧ w.cell? ⟨g, 3, none⟩ = some (.int .i64 p.2.1.1) ∧ w.cell? ⟨g, 4, none⟩ = some (.int .i64 p.2.2.1) :=
  ⟨cell_of_row w g 0 _ _ (0, 0) h, cell_of_row w g 1 _ _ (0, 0) h, cell_of_row w g 2 _ _ (0, 0) h, cell_of_row w g 3 _ _ (0, 0) h, cell_of_row w g 4 _ _ (0, 0) h⟩

theorem run_indexP (n0 n1 n2 n3 n4 n5 : Int) (k : Nat) (hk : k < 6) (w : World) :
    (Instr.index 115 (.agg #[.int .i64 n0, .int .i64 n1, .int .i64 n2, .int .i64 n3, .int .i64 n4, .int .i64 n5]) (.int .i64 (k : Int))).run Tryd.prog w = .ok (.int .i64 ([n0, n1, n2, n3, n4, n5].getD k 0)) w := by
  rcases (show k = 0 ∨ k = 1 ∨ k = 2 ∨ k = 3 ∨ k = 4 ∨ k = 5 by omega) with rfl | rfl | rfl | rfl | rfl | rfl <;> kernel_rfl
set_option maxHeartbeats 1000000 in
theorem beside_any (p : PG) (b : Int) (w : World) (hb : (Lit.int .i64 b).wf = true) :
    Calls Tryd.prog 21 #[.agg (pgCells p).toArray, .int .i64 b] w fun e w' => e = .returned (.string ⟨(besideA p b).toArray⟩) ∧ Keeps No w w' := by
  have hkA : Keeps No w (w.alloc (.cells (pgCells p).toArray 25)) := (Keeps.refl No w).alloc _
  have hbA := heap_alloc_new w (.cells (pgCells p).toArray 25)
  have hpw : ∀ n ∈ pgNums p b, (Lit.int .i64 n).wf = true := by
    intro n hn
    simp only [pgNums, List.mem_cons, List.mem_nil_iff, or_false] at hn
    rcases hn with rfl | rfl | rfl | rfl | rfl | rfl
    · exact p.1.1.2
    · exact p.1.2.1.2
    · exact p.1.2.2.2
    · exact p.2.1.2
    · exact p.2.2.2
    · exact hb
  have Hpw := Lib.hid hpw
  obtain ⟨N, hN⟩ : ∃ N, N = pgNums p b := ⟨_, rfl⟩
  have hN6 : N.length = 6 := by rw [hN]; rfl
  have HN := Lib.hid hN
  have HN6 := Lib.hid hN6
  have hlenB := besideA_len p b (wf_i64_iff hb)
  clear hpw hN hN6 hb
  obtain ⟨x0, x1, x2, x3, x4⟩ := pg_cells hbA
  unfold pgCells at hkA hbA x0 x1 x2 x3 x4 ⊢
  go_enter Tryd.func21, Tryd.ntmps21
  go_wp2_with fail
  go_loopg [5, 23] 6 (fun q v i wr => ∃ (k : Nat) (a : Option Addr) (c : Nat), k ≤ 6 ∧ q = 6 - k ∧ i = .int .i64 (k : Int) ∧ v = .slice a (besideL (N.take k)).length c ∧ Sl wr a (besideL (N.take k)).length c ((besideL (N.take k)).map byteV) ∧ Keeps No w wr)
  case atStart => exact ⟨0, none, 0, by omega, rfl, rfl, rfl, Sl.none _, hkA⟩
  case round =>
    obtain ⟨k, a, c, hk6, hq, rfl, rfl, hsl, hkr⟩ := hrel
    have Hq := Lib.hid hq
    clear hq
    by_cases hlt : k < 6
    · have hkN : k < N.length := by rw [HN6.out]; exact hlt
      have hix := fun wx => run_indexP p.1.1.1 p.1.2.1.1 p.1.2.2.1 p.2.1.1 p.2.2.1 b k hlt wx
      obtain ⟨x, hx⟩ : ∃ x, x = N[k] := ⟨_, rfl⟩
      have hxg : [p.1.1.1, p.1.2.1.1, p.1.2.2.1, p.2.1.1, p.2.2.1, b].getD k 0 = x := by
        rw [hx]
        have e : N[k]? = (pgNums p b)[k]? := by rw [HN.out]
        rw [List.getElem?_eq_getElem hkN] at e
        rw [List.getD_eq_getElem?_getD]
        show ((pgNums p b)[k]?).getD 0 = _
        rw [← e]; rfl
      have hxw : (Lit.int .i64 x).wf = true := Hpw.out _ (by rw [← HN.out, hx]; exact List.getElem_mem hkN)
      have hnx : besideL (N.take (k + 1)) = besideL (N.take k) ++ nat7 (fold x) := by rw [List.take_succ_eq_append_getElem hkN, besideL_snoc, ← hx]
      rw [hxg] at hix
      have hlk : (besideL (N.take k)).length ≤ 60 := by
        have e : besideA p b = besideL (N.take k) ++ besideL (N.drop k) := by
          unfold besideA
          rw [← HN.out]
          unfold besideL
          rw [← List.flatMap_append, List.take_append_drop]
        have := congrArg List.length e
        rw [List.length_append] at this
        omega
      have Hnx := Lib.hid hnx
      have Hx := Lib.hid hx
      generalize besideL (N.take k) = cur at hsl hlk Hnx ⊢
      clear hxg hx hnx
      go_wp2_with fail
      refine (number_any _ _ _ _ x _ hsl (by omega) hxw).mono ?_
      rintro e w2 ⟨v2, rfl, hown2, hk2⟩
      obtain ⟨a2, c2, rfl, hs2, _⟩ := Sl.ofOwn hown2
      go_wp2_with fail
      go_roundg (6 - (k + 1))
      case measure => have := Hq.out; omega
      case rel => exact ⟨k + 1, a2, c2, by omega, rfl, by go_num, by rw [Hnx.out, List.length_append], by rw [Hnx.out, List.length_append]; exact hs2, hkr.transNo hk2⟩
    · obtain rfl : k = 6 := by omega
      have hfin : besideL (N.take 6) = besideA p b := by rw [List.take_of_length_le (by rw [HN6.out]; exact Nat.le_refl _), HN.out]; rfl
      rw [hfin] at hsl ⊢
      have hst := strB hsl
      clear hfin
      go_wp2_with fail
      go_ret
      exact ⟨rfl, hkr⟩

/-- Noughts are struck at the end. -/
theorem trimR_any (a : Option Addr) (n c : Nat) (b : List UInt8) (w : World) (hs : Sl w a n c (b.map byteV)) :
    Calls Tryd.prog 71 #[.slice a n c, .int .u8 0] w fun e w' => ∃ k, k ≤ n ∧ e = .returned (.slice a k c) ∧ (∀ x ∈ b.drop k, x = 0) ∧ (0 < k → b.getD (k - 1) 0 ≠ 0) ∧ w = w' := by
  have hlen : b.length = n := by simpa using hs.len
  have hwm := hs.max
  have hwl := hs.le
  unfold maxLen at hwm
  have Hlen := Lib.hid hlen
  clear hlen
  go_enter Tryd.func71, Tryd.ntmps71
  go_wp2_with fail
  go_loopg [0] n (fun q v wr => ∃ k : Nat, k ≤ n ∧ q = k ∧ v = .slice a k c ∧ (∀ x ∈ b.drop k, x = 0) ∧ w = wr)
  case atStart => exact ⟨n, Nat.le_refl _, rfl, rfl, fun x hx => by rw [List.drop_of_length_le (by rw [Hlen.out]; exact Nat.le_refl _)] at hx; simp at hx, rfl⟩
  case round =>
    obtain ⟨k, hk, hq, rfl, hz, rfl⟩ := hrel
    have Hq := Lib.hid hq
    have Hz := Lib.hid hz
    clear hq hz
    by_cases h0 : k = 0
    · subst h0
      go_wp2_with fail
      go_ret
      exact ⟨0, Nat.zero_le _, rfl, Hz.out, fun h => by omega, rfl⟩
    obtain ⟨m, rfl⟩ : ∃ m, k = m + 1 := ⟨k - 1, by omega⟩
    have hmb : m < b.length := by rw [Hlen.out]; omega
    have hst := hs.takev (k := m + 1) (by omega)
    have hix := hst.ixz (P := Tryd.prog) Tryd.underlying35 (by kernel_rfl) (((m + 1 : Nat) : Int) - 1) (i := m) (by omega) (by omega) .i64
    have hix' := hst.ix (P := Tryd.prog) Tryd.underlying35 (by kernel_rfl) (i := m) (by omega) .i64
    have hcm := hs.at_ (i := m) (by omega)
    obtain ⟨x, hx⟩ : ∃ x, x = b[m] := ⟨_, rfl⟩
    have hbv : (b.map byteV).getD m undef = .int .u8 (x.toNat : Int) := by rw [hx]; simp [hmb, byteV]
    rw [hbv] at hcm
    have Hx := Lib.hid hx
    have hsl := hst.upto (P := Tryd.prog) Tryd.underlying35 (by kernel_rfl) (k := m) (by omega) .i64 (((m + 1 : Nat) : Int) - 1) (by omega)
    have hsl' := hst.upto (P := Tryd.prog) Tryd.underlying35 (by kernel_rfl) (k := m) (by omega) .i64 (m : Int) rfl
    obtain ⟨a2, f1, f2, _, rfl⟩ := hsl
    obtain ⟨a3, f3, f4, _, rfl⟩ := hsl'
    clear hbv hx
    by_cases hx0 : x.toNat = 0
    · have q1 : ((x.toNat : Int) == 0) = true := by rw [beq_iff_eq]; omega
      have HX0 := Lib.hid hx0
      clear hx0
      go_wp2_with fail
      go_roundg m
      case measure => have := Hq.out; omega
      case rel =>
        refine ⟨m, by omega, rfl, by go_num, fun y hy => ?_, rfl⟩
        rw [List.drop_eq_getElem_cons hmb] at hy
        rcases List.mem_cons.1 hy with h | h
        · rw [h, ← Hx.out]; exact UInt8.toNat_inj.1 (by simpa using HX0.out)
        · exact Hz.out y h
    · have q1 : ((x.toNat : Int) == 0) = false := by rw [beq_eq_false_iff_ne]; omega
      have HX0 := Lib.hid hx0
      clear hx0
      go_wp2_with fail
      go_ret
      refine ⟨m + 1, hk, rfl, Hz.out, fun _ h => ?_, rfl⟩
      have e : b.getD (m + 1 - 1) 0 = x := by rw [Hx.out]; simp [hmb]
      rw [e] at h
      exact HX0.out (by rw [h]; rfl)

/-- Noughts are struck at the head. -/
theorem trimL_any (a : Option Addr) (n c : Nat) (b : List UInt8) (w : World) (hs : Sl w a n c (b.map byteV)) :
    Calls Tryd.prog 70 #[.slice a n c, .int .u8 0] w fun e w' => ∃ a' n' c', e = .returned (.slice a' n' c') ∧ n' ≤ n ∧ (n' = 0 ↔ ∀ x ∈ b, x = 0) ∧ w = w' := by
  have hlen : b.length = n := by simpa using hs.len
  have hwm := hs.max
  have hwl := hs.le
  unfold maxLen at hwm
  have Hlen := Lib.hid hlen
  clear hlen
  go_enter Tryd.func70, Tryd.ntmps70
  go_wp2_with fail
  go_loopg [0] n (fun q v wr => ∃ (k : Nat) (a' : Option Addr), k ≤ n ∧ q = n - k ∧ v = .slice a' (n - k) (c - k) ∧ Sl w a' (n - k) (c - k) ((b.drop k).map byteV) ∧ (∀ x ∈ b.take k, x = 0) ∧ w = wr)
  case atStart => exact ⟨0, a, Nat.zero_le _, rfl, rfl, hs, fun x hx => by simp at hx, rfl⟩
  case round =>
    obtain ⟨k, a', hk, hq, rfl, hsl, hz, rfl⟩ := hrel
    have Hq := Lib.hid hq
    have Hz := Lib.hid hz
    clear hq hz
    by_cases h0 : k = n
    · subst h0
      have hz : k - k = 0 := Nat.sub_self k
      rw [hz] at hsl ⊢
      have all : ∀ x ∈ b, x = 0 := fun x hx => Hz.out x (by rw [List.take_of_length_le (by rw [Hlen.out]; exact Nat.le_refl _)]; exact hx)
      have All := Lib.hid all
      clear all hz
      go_wp2_with fail
      go_ret
      exact ⟨none, 0, 0, rfl, Nat.zero_le _, ⟨fun _ => All.out, fun _ => rfl⟩, rfl⟩
    obtain ⟨m, hm⟩ : ∃ m, m = n - k := ⟨_, rfl⟩
    have hm1 : 1 ≤ m := by omega
    have hkb : k < b.length := by rw [Hlen.out]; omega
    obtain ⟨cm, hcm0⟩ : ∃ cm, cm = c - k := ⟨_, rfl⟩
    rw [← hm, ← hcm0] at hsl ⊢
    have Hm := Lib.hid hm
    have Hcm := Lib.hid hcm0
    have hix := hsl.ixz (P := Tryd.prog) Tryd.underlying35 (by kernel_rfl) 0 (i := 0) rfl (by omega) .i64
    have hcm := hsl.at_ (i := 0) (by omega)
    obtain ⟨x, hx⟩ : ∃ x, x = b[k] := ⟨_, rfl⟩
    have hbv : ((b.drop k).map byteV).getD 0 undef = .int .u8 (x.toNat : Int) := by rw [hx, List.drop_eq_getElem_cons hkb, List.map_cons]; rfl
    rw [hbv] at hcm
    simp only [Addr.add_zero'] at hix hcm
    have Hx := Lib.hid hx
    obtain ⟨a2, f1, f2, hs2, _⟩ := hsl.from_ (P := Tryd.prog) Tryd.underlying35 (by kernel_rfl) (k := 1) (by omega) .i64 1 rfl
    have hs2' : Sl w a2 (n - (k + 1)) (c - (k + 1)) ((b.drop (k + 1)).map byteV) := by
      rw [show n - (k + 1) = m - 1 from by omega, show c - (k + 1) = cm - 1 from by omega]
      rw [← List.map_drop, List.drop_drop] at hs2
      exact hs2
    have e1 : m - 1 = n - (k + 1) := by omega
    have e2 : cm - 1 = c - (k + 1) := by omega
    have E1 := Lib.hid e1
    have E2 := Lib.hid e2
    clear hbv hx hm hcm0 hs2 e1 e2
    by_cases hx0 : x.toNat = 0
    · have q1 : ((x.toNat : Int) == 0) = true := by rw [beq_iff_eq]; omega
      have HX0 := Lib.hid hx0
      clear hx0
      go_wp2_with fail
      go_roundg (n - (k + 1))
      case measure => have := Hq.out; omega
      case rel =>
        refine ⟨k + 1, a2, by omega, rfl, by rw [E1.out, E2.out], hs2', fun y hy => ?_, rfl⟩
        rw [List.take_succ_eq_append_getElem hkb] at hy
        rcases List.mem_append.1 hy with h | h
        · exact Hz.out y h
        · simp at h; rw [h, ← Hx.out]; exact UInt8.toNat_inj.1 (by simpa using HX0.out)
    · have q1 : ((x.toNat : Int) == 0) = false := by rw [beq_eq_false_iff_ne]; omega
      have HX0 := Lib.hid hx0
      have q2 : ((m : Int) == 0) = false := by rw [beq_eq_false_iff_ne]; omega
      clear hx0
      go_wp2_with fail
      go_ret
      refine ⟨a', m, cm, rfl, by have := Hm.out; omega, ⟨fun h => by omega, fun h => ?_⟩, rfl⟩
      exfalso
      have := h x (by rw [Hx.out]; exact List.getElem_mem hkb)
      exact HX0.out (by rw [this]; rfl)

def TrimPost (n : Nat) (b : List UInt8) (w : World) (e : Ending) (w' : World) : Prop := ∃ a' n' c', e = .returned (.slice a' n' c') ∧ n' ≤ n ∧ (n' = 0 ↔ ∀ x ∈ b, x = 0) ∧ Keeps No w w'
/-- bytes.Trim of noughts leaves nothing just of noughts. -/
theorem trim_any (a : Option Addr) (n c : Nat) (b : List UInt8) (w : World) (hs : Sl w a n c (b.map byteV)) :
    Calls Tryd.prog 55 #[.slice a n c, .string ⟨#[0]⟩] w (TrimPost n b w) := by
  have hlen : b.length = n := by simpa using hs.len
  have hwm := hs.max
  have hwl := hs.le
  unfold maxLen at hwm
  have Hlen := Lib.hid hlen
  clear hlen
  by_cases h0 : n = 0
  · subst h0
    have hb : b = [] := List.eq_nil_of_length_eq_zero Hlen.out
    have Hb := Lib.hid hb
    clear hb
    go_enter Tryd.func55, Tryd.ntmps55
    go_wp2_with fail
    go_ret
    exact ⟨none, 0, 0, rfl, Nat.le_refl _, ⟨fun _ => by rw [Hb.out]; simp, fun _ => rfl⟩, Keeps.refl _ _⟩
  have q1 : ((n : Int) == 0) = false := by rw [beq_eq_false_iff_ne]; omega
  have hb0 : ((⟨#[0]⟩ : ByteArray)[0]'(by decide)).toNat = 0 := rfl
  go_enter Tryd.func55, Tryd.ntmps55
  go_wp2_with fail
  have htr := trimR_any a n c b _ (hs.kept (Keeps.refl No w).drew)
  refine wp_region_held_drew (S := fun wx => wx = w.drew) (by kernel_rfl) (rfl) (fun hS => ?_)
  refine tk (i := 0) (oi := ⟨some 21, _, _, _, _, _⟩) (v := ?_) rfl (by kernel_rfl) (fun _ _ _ h => h) (by assumption) (by rfl) (fun w hSw => ?_) ?_; rotate_left; (focus (first | (go_simp; done) | (go_simp; with_reducible rfl))); simp only [Act.put, List.setIfInBounds_toArray, List.set_cons_zero, List.set_cons_succ]
  refine tk (i := 1) (oi := ⟨some 22, _, _, _, _, _⟩) (v := ?_) rfl (by kernel_rfl) (fun _ _ _ h => h) (by assumption) (by rfl) (fun w hSw => ?_) ?_; rotate_left; (focus (first | (go_simp; done) | (go_simp; with_reducible rfl))); simp only [Act.put, List.setIfInBounds_toArray, List.set_cons_zero, List.set_cons_succ]
  refine tk (i := 2) (oi := ⟨some 23, _, _, _, _, _⟩) (v := ?_) rfl (by kernel_rfl) (fun _ _ _ h => h) (by assumption) (by rfl) (fun w hSw => ?_) ?_; rotate_left; (focus (first | (go_simp; done) | (go_simp; with_reducible rfl))); simp only [Act.put, List.setIfInBounds_toArray, List.set_cons_zero, List.set_cons_succ]
  refine tk (i := 4) (oi := ⟨some 25, _, _, _, _, _⟩) (v := ?_) rfl (by kernel_rfl) (fun _ _ _ h => h) (by assumption) (by rfl) (fun w hSw => ?_) ?_; rotate_left; (focus (first | (go_simp; done) | (go_simp; with_reducible rfl))); simp only [Act.put, List.setIfInBounds_toArray, List.set_cons_zero, List.set_cons_succ]
  refine tk (i := 5) (oi := ⟨some 26, _, _, _, _, _⟩) (v := ?_) rfl (by kernel_rfl) (fun _ _ _ h => h) (by assumption) (by rfl) (fun w hSw => ?_) ?_; rotate_left; (focus (first | (go_simp; done) | (go_simp; with_reducible rfl))); simp only [Act.put, List.setIfInBounds_toArray, List.set_cons_zero, List.set_cons_succ]
  refine alone (i := 3) (oi := ⟨some 24, _, _, _, _, _⟩) rfl (by kernel_rfl) (by rfl) (fun K hK => ?_); go_simp
  refine htr.mono ?_
  rintro e w1 ⟨k, hk, rfl, hz, hne, rfl⟩
  have htl := trimL_any a k c (b.take k) _ ((hs.kept (Keeps.refl No w).drew).takev hk |> fun h => by rw [← List.map_take] at h; exact h)
  go_simp
  refine hK.out (fun wx => wx = w.drew) _ _ (fun _ h => h) (rfl) ?_
  clear hK K hS
  intro hS
  refine alone (i := 6) (oi := ⟨some 27, _, _, _, _, _⟩) rfl (by kernel_rfl) (by rfl) (fun K hK => ?_); go_simp
  refine htl.mono ?_
  rintro e w1 ⟨a', n', c', rfl, hn', hiff, rfl⟩
  go_simp
  refine hK.out (fun wx => wx = w.drew) _ _ (fun _ h => h) (rfl) ?_
  clear hK K hS
  intro hS
  refine tk (i := 7) (oi := ⟨some 4, _, _, _, _, _⟩) (v := ?_) rfl (by kernel_rfl) (fun _ _ _ h => h) (by assumption) (by rfl) (fun w hSw => ?_) ?_; rotate_left; (focus (first | (go_simp; done) | (go_simp; with_reducible rfl))); simp only [Act.put, List.setIfInBounds_toArray, List.set_cons_zero, List.set_cons_succ]
  refine wpAnyH_done (by kernel_rfl) ?_ _
  go_wp2_with fail
  go_ret
  refine ⟨a', n', c', rfl, by omega, ⟨fun h x hx => ?_, fun h => hiff.2 (fun x hx => h x (List.mem_of_mem_take hx))⟩, (Keeps.refl No w).drew⟩
  rw [← List.take_append_drop k b] at hx
  rcases List.mem_append.1 hx with hx | hx
  · exact hiff.1 h x hx
  · exact hz x hx

end Go.Proofs.YthimnkmoeonheaaDoor
