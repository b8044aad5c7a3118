/- The walks of package zone. -/
import Derived.Test.YtmhmpnbcjcmnnaaValC
namespace Go.Proofs.Ytmhmpnbcjcmnnaa
open Go.RowKit
set_option linter.unusedSimpArgs false
set_option linter.unusedVariables false

def nanV (v : Va) : Bool := decide (v.k = 4) && fnan v.f
theorem fcmp_self (u : Nat) : fcmp u u = (0, !fnan u) := by
  unfold fcmp
  cases h : fnan u
  · simp [cmp3_eq]
  · simp
theorem znan_any (v : Va) (w : World) : Calls Try.prog 48 #[v.agg] w fun e w' => e = .returned (.bool (nanV v)) ∧ Keeps No w w' := by
  obtain ⟨k, n, s, f⟩ := v
  unfold Va.agg
  simp only
  go_enter Try.func48, Try.ntmps48
  go_wp2_with fail
  refine (fcompare_any f f _).mono ?_
  rw [fcmp_self]
  rintro e w1 ⟨rfl, rfl⟩
  by_cases hk : k = 4
  · subst hk
    go_wp2_with fail
    go_ret
    exact ⟨ret_bool (by simp [nanV]), (Keeps.refl No w).alloc _⟩
  · have hkb : (k == 4) = false := by simp [hk]
    have Hk := Lib.hid hk
    clear hk
    go_wp2_with fail
    go_ret
    exact ⟨ret_bool (by simp [nanV, Hk.out]), (Keeps.refl No w).alloc _⟩

def opOk (op : Int) : Bool := decide (0 ≤ op) && decide (op ≤ 5)
def opYes (op c : Int) : Bool :=
  if op = 0 then decide (c = 0) else if op = 1 then decide (c ≠ 0) else if op = 2 then decide (c < 0) else if op = 3 then decide (c ≤ 0) else if op = 4 then decide (0 < c) else decide (0 ≤ c)
def zholds (op : Int) (a b : Va) : Int := if (vcmp a b).2 = false ∨ op < 0 ∨ 5 < op then 2 else if opYes op (vcmp a b).1 = true then 1 else 0
/-- One of six truths by its place. -/
theorem run_index6 (b0 b1 b2 b3 b4 b5 : Bool) (w : World) :
    (Instr.index 75 (.agg #[.bool b0, .bool b1, .bool b2, .bool b3, .bool b4, .bool b5]) (.int .i64 0)).run Try.prog w = .ok (.bool b0) w ∧
    (Instr.index 75 (.agg #[.bool b0, .bool b1, .bool b2, .bool b3, .bool b4, .bool b5]) (.int .i64 1)).run Try.prog w = .ok (.bool b1) w ∧
    (Instr.index 75 (.agg #[.bool b0, .bool b1, .bool b2, .bool b3, .bool b4, .bool b5]) (.int .i64 2)).run Try.prog w = .ok (.bool b2) w ∧
    (Instr.index 75 (.agg #[.bool b0, .bool b1, .bool b2, .bool b3, .bool b4, .bool b5]) (.int .i64 3)).run Try.prog w = .ok (.bool b3) w ∧
    (Instr.index 75 (.agg #[.bool b0, .bool b1, .bool b2, .bool b3, .bool b4, .bool b5]) (.int .i64 4)).run Try.prog w = .ok (.bool b4) w ∧
    (Instr.index 75 (.agg #[.bool b0, .bool b1, .bool b2, .bool b3, .bool b4, .bool b5]) (.int .i64 5)).run Try.prog w = .ok (.bool b5) w :=
  ⟨by kernel_rfl, by kernel_rfl, by kernel_rfl, by kernel_rfl, by kernel_rfl, by kernel_rfl⟩
set_option maxRecDepth 100000 in
set_option maxHeartbeats 2000000 in
theorem zholds_any (op : Int) (a b : Va) (ha : a.wf) (hb : b.wf) (hop : (Lit.int .i64 op).wf = true) (w : World) : Calls Try.prog 25 #[.int .i64 op, a.agg, b.agg] w fun e w' => e = .returned (.int .i64 (zholds op a b)) ∧ Keeps No w w' := by
  have hcall := fun wx => vcompare_any a b ha hb wx
  obtain ⟨R, hR⟩ : ∃ R, R = zholds op a b := ⟨_, rfl⟩
  rw [← hR]
  unfold zholds at hR
  generalize vcmp a b = C at hcall hR
  obtain ⟨c, ok⟩ := C
  simp only at hcall hR
  have HR := Lib.hid hR
  have hw := wf_i64_iff hop
  clear hR hop
  obtain ⟨ka, na, sa, fa⟩ := a
  obtain ⟨kb, nb, sb, fb⟩ := b
  unfold Va.agg at hcall ⊢
  simp only at hcall ⊢
  go_enter Try.func25, Try.ntmps25
  go_wp2_with fail
  refine (hcall _).mono ?_
  rintro e w1 ⟨rfl, hk1⟩
  have hk01 : Keeps No w w1 := (((Keeps.refl No w).alloc _).alloc _).transNo hk1
  clear hcall hk1
  cases ok
  · go_wp2_with fail
    go_ret
    exact ⟨by rw [HR.out]; rfl, hk01⟩
  by_cases h0 : op < 0
  · go_wp2_with fail
    go_ret
    exact ⟨by rw [HR.out, if_pos (.inr (.inl h0))]; rfl, hk01⟩
  by_cases h5 : 5 < op
  · go_wp2_with fail
    go_ret
    exact ⟨by rw [HR.out, if_pos (.inr (.inr h5))]; rfl, hk01⟩
  have HR2 : Hid (R = if opYes op c = true then 1 else 0) := Lib.hid (by rw [HR.out, if_neg (by simp; omega)])
  clear HR
  have hix := fun b0 b1 b2 b3 b4 b5 wx => run_index6 b0 b1 b2 b3 b4 b5 wx
  rcases (show op = 0 ∨ op = 1 ∨ op = 2 ∨ op = 3 ∨ op = 4 ∨ op = 5 by omega) with rfl | rfl | rfl | rfl | rfl | rfl
  all_goals
    rcases Int.lt_trichotomy c 0 with hc | hc | hc
    · have e1 : (c == 0) = false := by simp; omega
      have e2 : (c != 0) = true := by simp; omega
      go_wp2_with fail
      go_ret
      exact ⟨by rw [HR2.out]; simp [opYes]; try omega, hk01⟩
    · subst hc
      go_wp2_with fail
      go_ret
      exact ⟨by rw [HR2.out]; simp [opYes]; try omega, hk01⟩
    · have e1 : (c == 0) = false := by simp; omega
      have e2 : (c != 0) = true := by simp; omega
      go_wp2_with fail
      go_ret
      exact ⟨by rw [HR2.out]; simp [opYes]; try omega, hk01⟩

def tab6 (op b0 b1 b2 b3 b4 b5 : Int) : Int := if op = 0 then b0 else if op = 1 then b1 else if op = 2 then b2 else if op = 3 then b3 else if op = 4 then b4 else if op = 5 then b5 else op
theorem turned_any (op b0 b1 b2 b3 b4 b5 : Int) (w : World) : Calls Try.prog 54 #[.int .i64 op, .agg #[.int .i64 b0, .int .i64 b1, .int .i64 b2, .int .i64 b3, .int .i64 b4, .int .i64 b5]] w fun e w' => e = .returned (.int .i64 (tab6 op b0 b1 b2 b3 b4 b5)) ∧ Keeps No w w' := by
  obtain ⟨R, hR⟩ : ∃ R, R = tab6 op b0 b1 b2 b3 b4 b5 := ⟨_, rfl⟩
  rw [← hR]
  have HR := Lib.hid hR
  clear hR
  go_enter Try.func54, Try.ntmps54
  by_cases h0 : op < 0
  · go_wp2_with fail
    go_ret
    exact ⟨ret_num (by rw [HR.out]; unfold tab6; rw [if_neg (by omega), if_neg (by omega), if_neg (by omega), if_neg (by omega), if_neg (by omega), if_neg (by omega)]), (Keeps.refl No w).alloc _⟩
  by_cases h5 : 5 < op
  · go_wp2_with fail
    go_ret
    exact ⟨ret_num (by rw [HR.out]; unfold tab6; rw [if_neg (by omega), if_neg (by omega), if_neg (by omega), if_neg (by omega), if_neg (by omega), if_neg (by omega)]), (Keeps.refl No w).alloc _⟩
  rcases (show op = 0 ∨ op = 1 ∨ op = 2 ∨ op = 3 ∨ op = 4 ∨ op = 5 by omega) with rfl | rfl | rfl | rfl | rfl | rfl
  all_goals
    go_wp2_with fail
    go_ret
    exact ⟨ret_num (by rw [HR.out]; rfl), (Keeps.refl No w).alloc _⟩
def flipO (op : Int) : Int := tab6 op 0 1 4 5 2 3
def negO (op : Int) : Int := tab6 op 1 0 5 4 3 2
theorem flip_any (op : Int) (w : World) : Calls Try.prog 27 #[.int .i64 op] w fun e w' => e = .returned (.int .i64 (flipO op)) ∧ Keeps No w w' := by
  go_enter Try.func27, Try.ntmps27
  go_wp2_with fail
  refine (turned_any op 0 1 4 5 2 3 _).mono ?_
  rintro e w1 ⟨rfl, hk⟩
  go_wp2_with fail
  go_ret
  exact ⟨rfl, hk⟩
theorem neg_any (op : Int) (w : World) : Calls Try.prog 29 #[.int .i64 op] w fun e w' => e = .returned (.int .i64 (negO op)) ∧ Keeps No w w' := by
  go_enter Try.func29, Try.ntmps29
  go_wp2_with fail
  refine (turned_any op 1 0 5 4 3 2 _).mono ?_
  rintro e w1 ⟨rfl, hk⟩
  go_wp2_with fail
  go_ret
  exact ⟨rfl, hk⟩

theorem row4 {x y z u : Value} {g : Nat} {t : TypeId} {wx : World} (hb : wx.heap[g]? = some (.cells #[x, y, z, u] t (0, 0))) : wx.cell? ⟨g, 0, none⟩ = some x ∧ wx.cell? ⟨g, 1, none⟩ = some y ∧ wx.cell? ⟨g, 2, none⟩ = some z ∧ wx.cell? ⟨g, 3, none⟩ = some u :=
  ⟨cell_of_row wx _ 0 _ _ (0, 0) hb, cell_of_row wx _ 1 _ _ (0, 0) hb, cell_of_row wx _ 2 _ _ (0, 0) hb, cell_of_row wx _ 3 _ _ (0, 0) hb⟩
def pickV (a b : Va) (side : Int) : Va := if a.k = 0 ∨ b.k ≠ 0 ∧ vorder b a = side then b else a
set_option maxRecDepth 100000 in
set_option maxHeartbeats 2000000 in
theorem pick_any (a b : Va) (side : Int) (ha : a.wf) (hb : b.wf) (w : World) : Calls Try.prog 51 #[a.agg, b.agg, .int .i64 side] w fun e w' => e = .returned (pickV a b side).agg ∧ Keeps No w w' := by
  have hcall := fun wx => vorder_any b a hb ha wx
  obtain ⟨R, hR⟩ : ∃ R, R = pickV a b side := ⟨_, rfl⟩
  rw [← hR]
  unfold pickV at hR
  generalize vorder b a = c at hcall hR
  have HR := Lib.hid hR
  clear hR
  obtain ⟨ka, na, sa, fa⟩ := a
  obtain ⟨kb, nb, sb, fb⟩ := b
  unfold Va.agg at hcall ⊢
  simp only at hcall ⊢
  go_enter Try.func51, Try.ntmps51
  go_upto_region 1 with fail
  have hbA := (((Keeps.refl No (w.alloc (.cells #[.int .i64 ka, .int .i64 na, .string sa, .int .u64 (fa : Int)] 37))).alloc (.cells #[.int .i64 kb, .int .i64 nb, .string sb, .int .u64 (fb : Int)] 37)).alloc (.cells #[.int .i64 0, .int .i64 0, .string ⟨#[]⟩, .int .u64 0] 37)).blk (heap_alloc_new w (.cells #[.int .i64 ka, .int .i64 na, .string sa, .int .u64 (fa : Int)] 37)) (not_No _)
  have hbB := ((Keeps.refl No ((w.alloc (.cells #[.int .i64 ka, .int .i64 na, .string sa, .int .u64 (fa : Int)] 37)).alloc (.cells #[.int .i64 kb, .int .i64 nb, .string sb, .int .u64 (fb : Int)] 37))).alloc (.cells #[.int .i64 0, .int .i64 0, .string ⟨#[]⟩, .int .u64 0] 37)).blk (heap_alloc_new (w.alloc (.cells #[.int .i64 ka, .int .i64 na, .string sa, .int .u64 (fa : Int)] 37)) (.cells #[.int .i64 kb, .int .i64 nb, .string sb, .int .u64 (fb : Int)] 37)) (not_No _)
  have hbZ := heap_alloc_new ((w.alloc (.cells #[.int .i64 ka, .int .i64 na, .string sa, .int .u64 (fa : Int)] 37)).alloc (.cells #[.int .i64 kb, .int .i64 nb, .string sb, .int .u64 (fb : Int)] 37)) (.cells #[.int .i64 0, .int .i64 0, .string ⟨#[]⟩, .int .u64 0] 37)
  rw [show (w.alloc (.cells #[.int .i64 ka, .int .i64 na, .string sa, .int .u64 (fa : Int)] 37)).heap.size = w.heap.size + 1 from by simp] at hbB
  rw [show ((w.alloc (.cells #[.int .i64 ka, .int .i64 na, .string sa, .int .u64 (fa : Int)] 37)).alloc (.cells #[.int .i64 kb, .int .i64 nb, .string sb, .int .u64 (fb : Int)] 37)).heap.size = w.heap.size + 2 from by simp] at hbZ
  have hkW : Keeps No w (((w.alloc (.cells #[.int .i64 ka, .int .i64 na, .string sa, .int .u64 (fa : Int)] 37)).alloc (.cells #[.int .i64 kb, .int .i64 nb, .string sb, .int .u64 (fb : Int)] 37)).alloc (.cells #[.int .i64 0, .int .i64 0, .string ⟨#[]⟩, .int .u64 0] 37)) := (((Keeps.refl No w).alloc _).alloc _).alloc _
  generalize (((w.alloc (.cells #[.int .i64 ka, .int .i64 na, .string sa, .int .u64 (fa : Int)] 37)).alloc (.cells #[.int .i64 kb, .int .i64 nb, .string sb, .int .u64 (fb : Int)] 37)).alloc (.cells #[.int .i64 0, .int .i64 0, .string ⟨#[]⟩, .int .u64 0] 37)) = W at hbA hbB hbZ hkW ⊢
  have hcA := fun wx (hx : Keeps No W wx) => row4 (hx.blk hbA (not_No _))
  have hcB := fun wx (hx : Keeps No W wx) => row4 (hx.blk hbB (not_No _))
  obtain ⟨a0, a1, a2, a3⟩ := hcA W (Keeps.refl _ _)
  obtain ⟨b0, b1, b2, b3⟩ := hcB W (Keeps.refl _ _)
  have HcA := Lib.hid hcA
  have HcB := Lib.hid hcB
  clear hcA hcB
  go_cut [21] (fun t wx => t = .bool (decide (ka = 0 ∨ kb ≠ 0 ∧ c = side)) ∧ Keeps No W wx)
  case first =>
    by_cases h1 : ka = 0
    · have e1 : (ka == 0) = true := by simp [h1]
      have H1 := Lib.hid h1
      clear h1
      go_wp2_with fail
      go_meet
      exact ⟨by simp [H1.out], Keeps.refl _ _⟩
    have e1 : (ka == 0) = false := by simp [h1]
    by_cases h2 : kb = 0
    · have e2 : (kb != 0) = false := by simp [h2]
      have H1 := Lib.hid h1
      have H2 := Lib.hid h2
      clear h1 h2
      go_wp2_with fail
      go_meet
      exact ⟨by simp [H1.out, H2.out], Keeps.refl _ _⟩
    have e2 : (kb != 0) = true := by simp [h2]
    have H1 := Lib.hid h1
    have H2 := Lib.hid h2
    clear h1 h2
    go_wp2_with fail
    refine (hcall _).mono ?_
    rintro e w4 ⟨rfl, hk4⟩
    by_cases h3 : c = side
    · have e3 : (c == side) = true := by simp [h3]
      have H3 := Lib.hid h3
      clear h3
      go_wp2_with fail
      go_meet
      exact ⟨by simp [H1.out, H2.out, H3.out], hk4⟩
    · have e3 : (c == side) = false := by simp [h3]
      have H3 := Lib.hid h3
      clear h3
      go_wp2_with fail
      go_meet
      exact ⟨by simp [H1.out, H2.out, H3.out], hk4⟩
  case rest =>
    obtain ⟨rfl, hkc⟩ := hcut
    clear a0 a1 a2 a3 b0 b1 b2 b3
    obtain ⟨a0, a1, a2, a3⟩ := HcA.out _ hkc
    obtain ⟨b0, b1, b2, b3⟩ := HcB.out _ hkc
    have hbZc := hkc.blk hbZ (not_No _)
    have hk0c := hkW.transNo hkc
    by_cases hd : ka = 0 ∨ kb ≠ 0 ∧ c = side
    · have hr : R = ⟨kb, nb, sb, fb⟩ := by rw [HR.out, if_pos hd]
      rw [decide_eq_true hd]
      have Hr := Lib.hid hr
      clear hd hr
      go_wp2_with (refine wpList_storeRow rfl 37 (.tmp 6) (.tmp 22) rfl (w.heap.size + 2) #[.int .i64 kb, .int .i64 nb, .string sb, .int .u64 (fb : Int)] rfl rfl 37 _ hbZc (by kernel_rfl) rfl (by kernel_rfl) ?_)
      intro w5 hb5 hz5 hk5
      go_wp2_with fail
      (try simp only [Exit.inBlock, Exit.then]); refine bodyPost_ret (results_cell_row rfl _ _ _ _ _ _ _ rfl hb5 Try.underlying37 rfl (by kernel_rfl)) rfl ?_
      exact ⟨by rw [Hr.out], hk0c.trans hk5 (fun i hi e => by omega)⟩
    · have hr : R = ⟨ka, na, sa, fa⟩ := by rw [HR.out, if_neg hd]
      rw [decide_eq_false hd]
      have Hr := Lib.hid hr
      clear hd hr
      go_wp2_with (refine wpList_storeRow rfl 37 (.tmp 6) (.tmp 23) rfl (w.heap.size + 2) #[.int .i64 ka, .int .i64 na, .string sa, .int .u64 (fa : Int)] rfl rfl 37 _ hbZc (by kernel_rfl) rfl (by kernel_rfl) ?_)
      intro w5 hb5 hz5 hk5
      go_wp2_with fail
      (try simp only [Exit.inBlock, Exit.then]); refine bodyPost_ret (results_cell_row rfl _ _ _ _ _ _ _ rfl hb5 Try.underlying37 rfl (by kernel_rfl)) rfl ?_
      exact ⟨by rw [Hr.out], hk0c.trans hk5 (fun i hi e => by omega)⟩

structure Zo where
  r : Int
  nu : Int
  na : Int
  mn : Va
  mx : Va
deriving DecidableEq
def Zo.wf (z : Zo) : Prop := (Lit.int .i64 z.r).wf = true ∧ (Lit.int .i64 z.nu).wf = true ∧ (Lit.int .i64 z.na).wf = true ∧ z.mn.wf ∧ z.mx.wf
def Zo.zero : Zo := ⟨0, 0, 0, Va.zero, Va.zero⟩
def zoCells (z : Zo) : Array Value := #[.int .i64 z.r, .int .i64 z.nu, .int .i64 z.na, .int .i64 z.mn.k, .int .i64 z.mn.n, .string z.mn.s, .int .u64 (z.mn.f : Int), .int .i64 z.mx.k, .int .i64 z.mx.n, .string z.mx.s, .int .u64 (z.mx.f : Int)]
def Zo.agg (z : Zo) : Value := .agg #[.int .i64 z.r, .int .i64 z.nu, .int .i64 z.na, .int .i64 z.mn.k, .int .i64 z.mn.n, .string z.mn.s, .int .u64 (z.mn.f : Int), .int .i64 z.mx.k, .int .i64 z.mx.n, .string z.mx.s, .int .u64 (z.mx.f : Int)]
theorem row11 {x0 x1 x2 x3 x4 x5 x6 x7 x8 x9 x10 : Value} {g : Nat} {t : TypeId} {wx : World} (hb : wx.heap[g]? = some (.cells #[x0, x1, x2, x3, x4, x5, x6, x7, x8, x9, x10] t (0, 0))) :
    wx.cell? ⟨g, 0, none⟩ = some x0 ∧ wx.cell? ⟨g, 1, none⟩ = some x1 ∧ wx.cell? ⟨g, 2, none⟩ = some x2 ∧ wx.cell? ⟨g, 3, none⟩ = some x3 ∧ wx.cell? ⟨g, 4, none⟩ = some x4 ∧ wx.cell? ⟨g, 5, none⟩ = some x5 ∧
    wx.cell? ⟨g, 6, none⟩ = some x6 ∧ wx.cell? ⟨g, 7, none⟩ = some x7 ∧ wx.cell? ⟨g, 8, none⟩ = some x8 ∧ wx.cell? ⟨g, 9, none⟩ = some x9 ∧ wx.cell? ⟨g, 10, none⟩ = some x10 :=
  ⟨cell_of_row wx _ 0 _ _ (0, 0) hb, cell_of_row wx _ 1 _ _ (0, 0) hb, cell_of_row wx _ 2 _ _ (0, 0) hb, cell_of_row wx _ 3 _ _ (0, 0) hb, cell_of_row wx _ 4 _ _ (0, 0) hb, cell_of_row wx _ 5 _ _ (0, 0) hb,
    cell_of_row wx _ 6 _ _ (0, 0) hb, cell_of_row wx _ 7 _ _ (0, 0) hb, cell_of_row wx _ 8 _ _ (0, 0) hb, cell_of_row wx _ 9 _ _ (0, 0) hb, cell_of_row wx _ 10 _ _ (0, 0) hb⟩
def joinZ (a b : Zo) : Zo := ⟨IntKind.i64.wrap (a.r + b.r), IntKind.i64.wrap (a.nu + b.nu), IntKind.i64.wrap (a.na + b.na), pickV a.mn b.mn (-1), pickV a.mx b.mx 1⟩

set_option maxRecDepth 100000 in
set_option maxHeartbeats 4000000 in
theorem join_any (a b : Zo) (ha : a.wf) (hb : b.wf) (w : World) : Calls Try.prog 24 #[a.agg, b.agg] w fun e w' => e = .returned (joinZ a b).agg ∧ Keeps No w w' := by
  have hmn := fun wx => pick_any a.mn b.mn (-1) ha.2.2.2.1 hb.2.2.2.1 wx
  have hmx := fun wx => pick_any a.mx b.mx 1 ha.2.2.2.2 hb.2.2.2.2 wx
  obtain ⟨J, hJ⟩ : ∃ J, J = joinZ a b := ⟨_, rfl⟩
  rw [← hJ]
  unfold joinZ at hJ
  generalize pickV a.mn b.mn (-1) = P1 at hmn hJ
  generalize pickV a.mx b.mx 1 = P2 at hmx hJ
  have HJ := Lib.hid hJ
  clear hJ ha hb
  obtain ⟨r, nu, na, ⟨k1, n1, s1, f1⟩, ⟨k2, n2, s2, f2⟩⟩ := a
  obtain ⟨r', nu', na', ⟨k3, n3, s3, f3⟩, ⟨k4, n4, s4, f4⟩⟩ := b
  obtain ⟨p1, p2, p3, p4⟩ := P1
  obtain ⟨q1, q2, q3, q4⟩ := P2
  unfold Va.agg at hmn hmx
  unfold Zo.agg
  simp only at hmn hmx HJ ⊢
  go_enter Try.func24, Try.ntmps24
  go_wp2_with fail
  have hbA := (((Keeps.refl No (w.alloc (.cells #[.int .i64 r, .int .i64 nu, .int .i64 na, .int .i64 k1, .int .i64 n1, .string s1, .int .u64 (f1 : Int), .int .i64 k2, .int .i64 n2, .string s2, .int .u64 (f2 : Int)] 39))).alloc (.cells #[.int .i64 r', .int .i64 nu', .int .i64 na', .int .i64 k3, .int .i64 n3, .string s3, .int .u64 (f3 : Int), .int .i64 k4, .int .i64 n4, .string s4, .int .u64 (f4 : Int)] 39)).alloc (.cells #[.int .i64 0, .int .i64 0, .int .i64 0, .int .i64 0, .int .i64 0, .string ⟨#[]⟩, .int .u64 0, .int .i64 0, .int .i64 0, .string ⟨#[]⟩, .int .u64 0] 39)).blk (heap_alloc_new w (.cells #[.int .i64 r, .int .i64 nu, .int .i64 na, .int .i64 k1, .int .i64 n1, .string s1, .int .u64 (f1 : Int), .int .i64 k2, .int .i64 n2, .string s2, .int .u64 (f2 : Int)] 39)) (not_No _)
  have hbB := ((Keeps.refl No ((w.alloc (.cells #[.int .i64 r, .int .i64 nu, .int .i64 na, .int .i64 k1, .int .i64 n1, .string s1, .int .u64 (f1 : Int), .int .i64 k2, .int .i64 n2, .string s2, .int .u64 (f2 : Int)] 39)).alloc (.cells #[.int .i64 r', .int .i64 nu', .int .i64 na', .int .i64 k3, .int .i64 n3, .string s3, .int .u64 (f3 : Int), .int .i64 k4, .int .i64 n4, .string s4, .int .u64 (f4 : Int)] 39))).alloc (.cells #[.int .i64 0, .int .i64 0, .int .i64 0, .int .i64 0, .int .i64 0, .string ⟨#[]⟩, .int .u64 0, .int .i64 0, .int .i64 0, .string ⟨#[]⟩, .int .u64 0] 39)).blk (heap_alloc_new (w.alloc (.cells #[.int .i64 r, .int .i64 nu, .int .i64 na, .int .i64 k1, .int .i64 n1, .string s1, .int .u64 (f1 : Int), .int .i64 k2, .int .i64 n2, .string s2, .int .u64 (f2 : Int)] 39)) (.cells #[.int .i64 r', .int .i64 nu', .int .i64 na', .int .i64 k3, .int .i64 n3, .string s3, .int .u64 (f3 : Int), .int .i64 k4, .int .i64 n4, .string s4, .int .u64 (f4 : Int)] 39)) (not_No _)
  have hbZ := heap_alloc_new ((w.alloc (.cells #[.int .i64 r, .int .i64 nu, .int .i64 na, .int .i64 k1, .int .i64 n1, .string s1, .int .u64 (f1 : Int), .int .i64 k2, .int .i64 n2, .string s2, .int .u64 (f2 : Int)] 39)).alloc (.cells #[.int .i64 r', .int .i64 nu', .int .i64 na', .int .i64 k3, .int .i64 n3, .string s3, .int .u64 (f3 : Int), .int .i64 k4, .int .i64 n4, .string s4, .int .u64 (f4 : Int)] 39)) (.cells #[.int .i64 0, .int .i64 0, .int .i64 0, .int .i64 0, .int .i64 0, .string ⟨#[]⟩, .int .u64 0, .int .i64 0, .int .i64 0, .string ⟨#[]⟩, .int .u64 0] 39)
  rw [show (w.alloc (.cells #[.int .i64 r, .int .i64 nu, .int .i64 na, .int .i64 k1, .int .i64 n1, .string s1, .int .u64 (f1 : Int), .int .i64 k2, .int .i64 n2, .string s2, .int .u64 (f2 : Int)] 39)).heap.size = w.heap.size + 1 from by simp] at hbB
  rw [show ((w.alloc (.cells #[.int .i64 r, .int .i64 nu, .int .i64 na, .int .i64 k1, .int .i64 n1, .string s1, .int .u64 (f1 : Int), .int .i64 k2, .int .i64 n2, .string s2, .int .u64 (f2 : Int)] 39)).alloc (.cells #[.int .i64 r', .int .i64 nu', .int .i64 na', .int .i64 k3, .int .i64 n3, .string s3, .int .u64 (f3 : Int), .int .i64 k4, .int .i64 n4, .string s4, .int .u64 (f4 : Int)] 39)).heap.size = w.heap.size + 2 from by simp] at hbZ
  have hkW : Keeps No w (((w.alloc (.cells #[.int .i64 r, .int .i64 nu, .int .i64 na, .int .i64 k1, .int .i64 n1, .string s1, .int .u64 (f1 : Int), .int .i64 k2, .int .i64 n2, .string s2, .int .u64 (f2 : Int)] 39)).alloc (.cells #[.int .i64 r', .int .i64 nu', .int .i64 na', .int .i64 k3, .int .i64 n3, .string s3, .int .u64 (f3 : Int), .int .i64 k4, .int .i64 n4, .string s4, .int .u64 (f4 : Int)] 39)).alloc (.cells #[.int .i64 0, .int .i64 0, .int .i64 0, .int .i64 0, .int .i64 0, .string ⟨#[]⟩, .int .u64 0, .int .i64 0, .int .i64 0, .string ⟨#[]⟩, .int .u64 0] 39)) := (((Keeps.refl No w).alloc _).alloc _).alloc _
  generalize (((w.alloc (.cells #[.int .i64 r, .int .i64 nu, .int .i64 na, .int .i64 k1, .int .i64 n1, .string s1, .int .u64 (f1 : Int), .int .i64 k2, .int .i64 n2, .string s2, .int .u64 (f2 : Int)] 39)).alloc (.cells #[.int .i64 r', .int .i64 nu', .int .i64 na', .int .i64 k3, .int .i64 n3, .string s3, .int .u64 (f3 : Int), .int .i64 k4, .int .i64 n4, .string s4, .int .u64 (f4 : Int)] 39)).alloc (.cells #[.int .i64 0, .int .i64 0, .int .i64 0, .int .i64 0, .int .i64 0, .string ⟨#[]⟩, .int .u64 0, .int .i64 0, .int .i64 0, .string ⟨#[]⟩, .int .u64 0] 39)) = W at hbA hbB hbZ hkW ⊢
  have hcA := fun wx (hx : Keeps No W wx) => row11 (hx.blk hbA (not_No _))
  have hcB := fun wx (hx : Keeps No W wx) => row11 (hx.blk hbB (not_No _))
  refine region_L (fun wx => Keeps No W wx) 26 (by kernel_rfl) ((Keeps.refl _ _).drew) (fun hS => ?_)
  refine tkL (i := 0) (oi := ⟨some 5, _, _, _, _, _⟩) (v := ?_) rfl (by kernel_rfl) (fun _ _ _ h => h) (by assumption) (by rfl) (fun w hSw => ?_) ?_; rotate_left; (focus (first | (go_simp; done) | (go_simp; with_reducible rfl))); simp only [Act.put, List.setIfInBounds_toArray, List.set_cons_zero, List.set_cons_succ]
  refine tkL (i := 1) (oi := ⟨some 6, _, _, _, _, _⟩) (v := ?_) rfl (by kernel_rfl) (fun _ _ _ h => h) (by assumption) (by rfl) (fun w hSw => ?_) ?_; rotate_left; (focus (first | (go_simp; done) | (go_simp; with_reducible rfl))); simp only [Act.put, List.setIfInBounds_toArray, List.set_cons_zero, List.set_cons_succ]
  refine tkL (i := 2) (oi := ⟨some 7, _, _, _, _, _⟩) (v := ?_) rfl (by kernel_rfl) (fun _ _ _ h => h) (by assumption) (by rfl) (fun w hSw => ?_) ?_; rotate_left; (focus (first | (go_simp; done) | (go_simp; with_reducible rfl))); simp only [Act.put, List.setIfInBounds_toArray, List.set_cons_zero, List.set_cons_succ]
  refine tkL (i := 3) (oi := ⟨some 8, _, _, _, _, _⟩) (v := ?_) rfl (by kernel_rfl) (fun _ _ _ h => h) (by assumption) (by rfl) (fun w hSw => ?_) ?_; rotate_left; (focus (first | (go_simp; done) | (go_simp; with_reducible rfl))); simp only [Act.put, List.setIfInBounds_toArray, List.set_cons_zero, List.set_cons_succ]
  refine tkL (i := 4) (oi := ⟨some 9, _, _, _, _, _⟩) (v := ?_) rfl (by kernel_rfl) (fun _ _ _ h => h) (by assumption) (by rfl) (fun w hSw => ?_) ?_; rotate_left; (focus (first | (go_simp; done) | (go_simp; with_reducible rfl))); simp only [Act.put, List.setIfInBounds_toArray, List.set_cons_zero, List.set_cons_succ]
  refine tkL (i := 5) (oi := ⟨some 10, _, _, _, _, _⟩) (v := ?_) rfl (by kernel_rfl) (fun _ _ _ h => h) (by assumption) (by rfl) (fun w hSw => ?_) ?_; rotate_left; (focus (first | (go_simp; done) | (go_simp; with_reducible rfl))); simp only [Act.put, List.setIfInBounds_toArray, List.set_cons_zero, List.set_cons_succ]
  refine tkL (i := 6) (oi := ⟨some 11, _, _, _, _, _⟩) (v := ?_) rfl (by kernel_rfl) (fun _ _ _ h => h) (by assumption) (by rfl) (fun w hSw => ?_) ?_; rotate_left; (focus (first | (go_simp; done) | (go_simp; with_reducible rfl))); simp only [Act.put, List.setIfInBounds_toArray, List.set_cons_zero, List.set_cons_succ]
  refine tkL (i := 7) (oi := ⟨some 12, _, _, _, _, _⟩) (v := ?_) rfl (by kernel_rfl) (fun _ _ _ h => h) (by assumption) (by rfl) (fun w hSw => ?_) ?_; rotate_left; (focus (first | (go_simp; done) | (go_simp; with_reducible rfl))); simp only [Act.put, List.setIfInBounds_toArray, List.set_cons_zero, List.set_cons_succ]
  refine tkL (i := 8) (oi := ⟨some 13, _, _, _, _, _⟩) (v := ?_) rfl (by kernel_rfl) (fun _ _ _ h => h) (by assumption) (by rfl) (fun w hSw => ?_) ?_; rotate_left; (focus (first | (go_simp; done) | (go_simp; with_reducible rfl))); simp only [Act.put, List.setIfInBounds_toArray, List.set_cons_zero, List.set_cons_succ]
  refine tkL (i := 9) (oi := ⟨some 14, _, _, _, _, _⟩) (v := ?_) rfl (by kernel_rfl) (fun _ _ _ h => h) (by assumption) (by rfl) (fun w hSw => ?_) ?_; rotate_left; (focus (first | (go_simp; done) | (go_simp; with_reducible rfl))); simp only [Act.put, List.setIfInBounds_toArray, List.set_cons_zero, List.set_cons_succ]
  refine tkL (i := 10) (oi := ⟨some 15, _, _, _, _, _⟩) (v := ?_) rfl (by kernel_rfl) (fun _ _ _ h => h) (by assumption) (by rfl) (fun w hSw => ?_) ?_; rotate_left; (focus (first | (go_simp; done) | (go_simp; with_reducible rfl))); simp only [Act.put, List.setIfInBounds_toArray, List.set_cons_zero, List.set_cons_succ]
  refine tkL (i := 11) (oi := ⟨some 16, _, _, _, _, _⟩) (v := ?_) rfl (by kernel_rfl) (fun _ _ _ h => h) (by assumption) (by rfl) (fun w hSw => ?_) ?_; rotate_left; (focus (first | (go_simp; done) | (go_simp; with_reducible rfl))); simp only [Act.put, List.setIfInBounds_toArray, List.set_cons_zero, List.set_cons_succ]
  refine tkL (i := 12) (oi := ⟨some 17, _, _, _, _, _⟩) (v := ?_) rfl (by kernel_rfl) (fun _ _ _ h => h) (by assumption) (by rfl) (fun w hSw => ?_) ?_; rotate_left; (focus (first | (go_simp; done) | (go_simp; with_reducible rfl))); simp only [Act.put, List.setIfInBounds_toArray, List.set_cons_zero, List.set_cons_succ]
  refine tkL (i := 13) (oi := ⟨some 18, _, _, _, _, _⟩) (v := ?_) rfl (by kernel_rfl) (fun _ _ _ h => h) (by assumption) (by rfl) (fun w hSw => ?_) ?_; rotate_left; (focus (first | (go_simp; done) | (go_simp; with_reducible rfl))); simp only [Act.put, List.setIfInBounds_toArray, List.set_cons_zero, List.set_cons_succ]
  refine tkL (i := 14) (oi := ⟨some 19, _, _, _, _, _⟩) (v := ?_) rfl (by kernel_rfl) (fun _ _ _ h => h) (by assumption) (by rfl) (fun w hSw => ?_) ?_; rotate_left; (focus (first | (go_simp; done) | (go_simp; with_reducible rfl))); simp only [Act.put, List.setIfInBounds_toArray, List.set_cons_zero, List.set_cons_succ]
  refine tkL (i := 15) (oi := ⟨some 20, _, _, _, _, _⟩) (v := ?_) rfl (by kernel_rfl) (fun _ _ _ h => h) (by assumption) (by rfl) (fun w hSw => ?_) ?_; rotate_left; (focus (first | (go_simp; done) | (go_simp; with_reducible rfl))); simp only [Act.put, List.setIfInBounds_toArray, List.set_cons_zero, List.set_cons_succ]
  refine tkL (i := 16) (oi := ⟨some 21, _, _, _, _, _⟩) (v := ?_) rfl (by kernel_rfl) (fun _ _ _ h => h) (by assumption) (by rfl) (fun w hSw => ?_) ?_; rotate_left; (focus (first | (go_simp; done) | (go_simp; with_reducible rfl))); simp only [Act.put, List.setIfInBounds_toArray, List.set_cons_zero, List.set_cons_succ]
  refine tkL (i := 17) (oi := ⟨some 22, _, _, _, _, _⟩) (v := ?_) rfl (by kernel_rfl) (fun _ _ _ h => h) (by assumption) (by rfl) (fun w hSw => ?_) ?_; rotate_left; (focus (first | (go_simp; done) | (go_simp; with_reducible rfl))); simp only [Act.put, List.setIfInBounds_toArray, List.set_cons_zero, List.set_cons_succ]
  refine tkL (i := 18) (oi := ⟨some 23, _, _, _, _, _⟩) (v := ?_) rfl (by kernel_rfl) (fun _ _ _ h => h) (by assumption) (by rfl) (fun w hSw => ?_) ?_; rotate_left; (focus (first | (go_simp; done) | (go_simp; with_reducible rfl))); simp only [Act.put, List.setIfInBounds_toArray, List.set_cons_zero, List.set_cons_succ]
  refine tkL (i := 20) (oi := ⟨some 25, _, _, _, _, _⟩) (v := ?_) rfl (by kernel_rfl) (fun _ _ _ h => h) (by assumption) (by rfl) (fun w hSw => ?_) ?_; rotate_left; (focus (first | (go_simp; done) | (go_simp; with_reducible rfl))); simp only [Act.put, List.setIfInBounds_toArray, List.set_cons_zero, List.set_cons_succ]
  refine tkL (i := 21) (oi := ⟨some 26, _, _, _, _, _⟩) (v := ?_) rfl (by kernel_rfl) (fun _ _ _ h => h) (by assumption) (by rfl) (fun w hSw => ?_) ?_; rotate_left; (focus (first | (go_simp; done) | (go_simp; with_reducible rfl))); simp only [Act.put, List.setIfInBounds_toArray, List.set_cons_zero, List.set_cons_succ]
  refine tkL (i := 22) (oi := ⟨some 27, _, _, _, _, _⟩) (v := ?_) rfl (by kernel_rfl) (fun _ _ _ h => h) (by assumption) (by rfl) (fun w hSw => ?_) ?_; rotate_left; (focus (first | (go_simp; done) | (go_simp; with_reducible rfl))); simp only [Act.put, List.setIfInBounds_toArray, List.set_cons_zero, List.set_cons_succ]
  refine tkL (i := 23) (oi := ⟨some 28, _, _, _, _, _⟩) (v := ?_) rfl (by kernel_rfl) (fun _ _ _ h => h) (by assumption) (by rfl) (fun w hSw => ?_) ?_; rotate_left; (focus (first | (go_simp; done) | (go_simp; with_reducible rfl))); simp only [Act.put, List.setIfInBounds_toArray, List.set_cons_zero, List.set_cons_succ]
  refine aloneL (i := 19) (oi := ⟨some 24, _, _, _, _, _⟩) rfl (by kernel_rfl) (by rfl) (fun K hK => ?_); go_simp
  refine (hmn _).mono ?_
  rintro e w4 ⟨rfl, hk4⟩
  refine hK.out (fun wx => Keeps No W wx) _ _ (fun _ h => h) (fun _ => hS.transNo hk4) ?_
  clear hK K hS
  intro hS
  replace hS := hS rfl
  refine aloneL (i := 24) (oi := ⟨some 29, _, _, _, _, _⟩) rfl (by kernel_rfl) (by rfl) (fun K hK => ?_); go_simp
  refine (hmx _).mono ?_
  rintro e w5 ⟨rfl, hk5⟩
  refine hK.out (fun wx => Keeps No W wx) _ _ (fun _ h => h) (fun _ => hS.transNo hk5) ?_
  clear hK K hS
  intro hS
  replace hS := hS rfl
  refine tkL (i := 25) (oi := ⟨some 30, _, _, _, _, _⟩) (v := ?_) rfl (by kernel_rfl) (fun _ _ _ h => h) (by assumption) (by rfl) (fun w hSw => ?_) ?_; rotate_left; (focus (first | (go_simp; done) | (go_simp; with_reducible rfl))); simp only [Act.put, List.setIfInBounds_toArray, List.set_cons_zero, List.set_cons_succ]
  refine aloneL (i := 26) (oi := ⟨none, _, _, _, _, _⟩) rfl (by kernel_rfl) (by rfl) (fun K hK => ?_)
  refine wp_storeRow 39 (.tmp 4) (.tmp 30) rfl (w.heap.size + 2) #[.int .i64 (IntKind.i64.wrap (r + r')), .int .i64 (IntKind.i64.wrap (nu + nu')), .int .i64 (IntKind.i64.wrap (na + na')), .int .i64 p1, .int .i64 p2, .string p3, .int .u64 (p4 : Int), .int .i64 q1, .int .i64 q2, .string q3, .int .u64 (q4 : Int)] rfl rfl 39 _ (hk5.blk (hk4.blk (show W.drew.heap[w.heap.size + 2]? = _ from hbZ) (not_No _)) (not_No _)) (by kernel_rfl) rfl (by kernel_rfl) ?_
  intro w6 hb6 hz6 hk6
  refine hK.out (fun wx => Keeps No W wx) _ _ (fun _ h => h) (fun e => absurd (show true = false from e) (by decide)) ?_
  clear hK K hS
  intro hS
  refine doneL (by kernel_rfl) ?_ _
  go_wp2_with fail
  (try simp only [Exit.inBlock, Exit.then]); refine bodyPost_ret (results_cell_row rfl _ _ _ _ _ _ _ rfl hb6 Try.underlying39 rfl (by kernel_rfl)) rfl ?_
  exact ⟨by rw [HJ.out], ((hkW.drew.transNo hk4).transNo hk5).trans hk6 (fun i hi e => by omega)⟩

def oneZ (v : Va) : Zo := if v.k = 0 ∨ rightV v = false then ⟨1, 1, 0, Va.zero, Va.zero⟩ else if nanV v = true then ⟨1, 0, 1, Va.zero, Va.zero⟩ else ⟨1, 0, 0, v, v⟩
def ofZ (l : List Va) : Zo := l.foldl (fun z v => joinZ z (oneZ v)) Zo.zero
theorem ofZ_snoc (l : List Va) (v : Va) : ofZ (l ++ [v]) = joinZ (ofZ l) (oneZ v) := by simp [ofZ]
theorem wf_wrap (x : Int) : (Lit.int .i64 (IntKind.i64.wrap x)).wf = true := by
  show (decide (IntKind.i64.min ≤ IntKind.i64.wrap x) && decide (IntKind.i64.wrap x ≤ IntKind.i64.max)) = true
  have e1 : IntKind.i64.min = -9223372036854775808 := by decide
  have e2 : IntKind.i64.max = 9223372036854775807 := by decide
  rw [e1, e2, IntKind.wrap_i64]
  simp
  omega
theorem pickV_wf {a b : Va} (side : Int) (ha : a.wf) (hb : b.wf) : (pickV a b side).wf := by unfold pickV; split <;> assumption
theorem joinZ_wf {a b : Zo} (ha : a.wf) (hb : b.wf) : (joinZ a b).wf := ⟨wf_wrap _, wf_wrap _, wf_wrap _, pickV_wf _ ha.2.2.2.1 hb.2.2.2.1, pickV_wf _ ha.2.2.2.2 hb.2.2.2.2⟩
theorem zero_wf : Va.zero.wf := ⟨by decide, by decide, by decide⟩
theorem oneZ_wf {v : Va} (hv : v.wf) : (oneZ v).wf := by
  unfold oneZ
  split
  · exact ⟨by decide, by decide, by decide, zero_wf, zero_wf⟩
  · split
    · exact ⟨by decide, by decide, by decide, zero_wf, zero_wf⟩
    · exact ⟨show (Lit.int .i64 1).wf = true by decide, show (Lit.int .i64 0).wf = true by decide, show (Lit.int .i64 0).wf = true by decide, hv, hv⟩
theorem ofZ_wf (l : List Va) (h : ∀ v ∈ l, v.wf) : (ofZ l).wf := by
  have : ∀ z : Zo, z.wf → (l.foldl (fun z v => joinZ z (oneZ v)) z).wf := by
    induction l with
    | nil => intro z hz; exact hz
    | cons v t ih => intro z hz; exact ih (fun x hx => h x (by simp [hx])) _ (joinZ_wf hz (oneZ_wf (h v (by simp))))
  exact this _ ⟨by decide, by decide, by decide, zero_wf, zero_wf⟩

set_option maxRecDepth 100000 in
set_option maxHeartbeats 4000000 in
theorem of_any (a : Option Addr) (n c : Nat) (l : List Va) (w : World) (hs : SlK w 4 a n c (l.map Va.cells)) (hl : ∀ v ∈ l, v.wf) : Calls Try.prog 22 #[.slice a n c] w fun e w' => e = .returned (ofZ l).agg ∧ Keeps No w w' := by
  have hlen : l.length = n := by simpa using hs.len
  have hmax : n ≤ 9223372036854775807 := by have h1 := hs.le; have h2 := hs.max; unfold maxLen at h2; omega
  have Hlen := Lib.hid hlen
  have Hl := Lib.hid hl
  clear hlen hl
  go_enter Try.func22, Try.ntmps22
  go_wp2_with fail
  go_loopg [9] n (fun q v9 wr => ∃ j : Nat, v9 = .int .i64 (j : Int) ∧ j ≤ n ∧ q = n - j ∧ wr.heap[w.heap.size + 1]? = some (.cells (zoCells (ofZ (l.take j))) 39 (0, 0)) ∧ wr.heap[w.heap.size]? = some (.cells (zoCells Zo.zero) 39 (0, 0)) ∧ Keeps No w wr)
  case atStart =>
    refine ⟨0, rfl, Nat.zero_le _, rfl, ?_, ?_, ((Keeps.refl No w).alloc _).alloc _⟩
    · have := heap_alloc_new (w.alloc (.cells (zoCells Zo.zero) 39)) (.cells (zoCells Zo.zero) 39)
      rw [show (w.alloc (.cells (zoCells Zo.zero) 39)).heap.size = w.heap.size + 1 from by simp] at this
      exact this
    · exact ((Keeps.refl No _).alloc _).blk (heap_alloc_new w (.cells (zoCells Zo.zero) 39)) (not_No _)
  case round =>
    obtain ⟨j, rfl, hj, hq, hbz, hbr, hkr⟩ := hrel
    have Hq := Lib.hid hq
    clear hq
    have hzr := hkr.size
    have hlz := (Array.getElem?_eq_some_iff.1 hbz).1
    by_cases hlt : j < n
    · have hjl : j < l.length := by rw [Hlen.out]; exact hlt
      obtain ⟨Z, hZ⟩ : ∃ Z, Z = ofZ (l.take j) := ⟨_, rfl⟩
      obtain ⟨v, hv⟩ : ∃ v, v = l[j] := ⟨_, rfl⟩
      have hZw : Z.wf := by rw [hZ]; exact ofZ_wf _ (fun x hx => Hl.out x (List.mem_of_mem_take hx))
      have hvw : v.wf := by rw [hv]; exact Hl.out _ (List.getElem_mem hjl)
      have hsn : ofZ (l.take (j + 1)) = joinZ Z (oneZ v) := by rw [List.take_succ_eq_append_getElem hjl, ofZ_snoc, ← hZ, ← hv]
      rw [← hZ] at hbz
      have hsr := hs.kept hkr
      have hix := hsr.ix (P := Try.prog) Try.underlying32 (by kernel_rfl) hlt .i64
      have hld := (hsr.load (P := Try.prog) Try.underlying37 rfl (by kernel_rfl) hlt).1
      have hb : (l.map Va.cells).getD j [] = v.cells := by rw [hv]; simp [hjl]
      rw [hb] at hld
      have Hsn := Lib.hid hsn
      clear hZ hv hsn hb
      obtain ⟨k, nn, s, f⟩ := v
      unfold Va.cells at hld
      simp only at hld
      go_upto_region 5 with (refine wpList_loadV rfl 37 _ rfl _ rfl _ hld ?_)
      go_upto_block 2 with fail
      have hbv := ((Keeps.refl No (wr.alloc (.cells #[.int .i64 k, .int .i64 nn, .string s, .int .u64 (f : Int)] 37))).alloc (.cells #[.int .i64 1, .int .i64 0, .int .i64 0, .int .i64 0, .int .i64 0, .string ⟨#[]⟩, .int .u64 0, .int .i64 0, .int .i64 0, .string ⟨#[]⟩, .int .u64 0] 39)).blk (heap_alloc_new wr (.cells #[.int .i64 k, .int .i64 nn, .string s, .int .u64 (f : Int)] 37)) (not_No _)
      have hbo := heap_alloc_new (wr.alloc (.cells #[.int .i64 k, .int .i64 nn, .string s, .int .u64 (f : Int)] 37)) (.cells #[.int .i64 1, .int .i64 0, .int .i64 0, .int .i64 0, .int .i64 0, .string ⟨#[]⟩, .int .u64 0, .int .i64 0, .int .i64 0, .string ⟨#[]⟩, .int .u64 0] 39)
      rw [show (wr.alloc (.cells #[.int .i64 k, .int .i64 nn, .string s, .int .u64 (f : Int)] 37)).heap.size = wr.heap.size + 1 from by simp] at hbo
      have hkW : Keeps No wr ((wr.alloc (.cells #[.int .i64 k, .int .i64 nn, .string s, .int .u64 (f : Int)] 37)).alloc (.cells #[.int .i64 1, .int .i64 0, .int .i64 0, .int .i64 0, .int .i64 0, .string ⟨#[]⟩, .int .u64 0, .int .i64 0, .int .i64 0, .string ⟨#[]⟩, .int .u64 0] 39)) := ((Keeps.refl No wr).alloc _).alloc _
      have hzW : ((wr.alloc (.cells #[.int .i64 k, .int .i64 nn, .string s, .int .u64 (f : Int)] 37)).alloc (.cells #[.int .i64 1, .int .i64 0, .int .i64 0, .int .i64 0, .int .i64 0, .string ⟨#[]⟩, .int .u64 0, .int .i64 0, .int .i64 0, .string ⟨#[]⟩, .int .u64 0] 39)).heap.size = wr.heap.size + 2 := by simp
      generalize ((wr.alloc (.cells #[.int .i64 k, .int .i64 nn, .string s, .int .u64 (f : Int)] 37)).alloc (.cells #[.int .i64 1, .int .i64 0, .int .i64 0, .int .i64 0, .int .i64 0, .string ⟨#[]⟩, .int .u64 0, .int .i64 0, .int .i64 0, .string ⟨#[]⟩, .int .u64 0] 39)) = W at hbv hbo hkW hzW ⊢
      obtain ⟨a0, a1, a2, a3⟩ := row4 hbv
      obtain ⟨O, hO⟩ : ∃ O, O = oneZ ⟨k, nn, s, f⟩ := ⟨_, rfl⟩
      have hOd : O = if k = 0 ∨ rightV ⟨k, nn, s, f⟩ = false then ⟨1, 1, 0, Va.zero, Va.zero⟩ else if nanV ⟨k, nn, s, f⟩ = true then ⟨1, 0, 1, Va.zero, Va.zero⟩ else ⟨1, 0, 0, ⟨k, nn, s, f⟩, ⟨k, nn, s, f⟩⟩ := hO
      have hOw : O.wf := by rw [hO]; exact oneZ_wf hvw
      have hright := fun wx => right_any ⟨k, nn, s, f⟩ hvw wx
      have hnan := fun wx => znan_any ⟨k, nn, s, f⟩ wx
      have HO := Lib.hid hO
      have HOd := Lib.hid hOd
      clear hO hOd
      unfold Va.agg at hright hnan
      simp only at hright hnan
      go_cut [] (fun wx => wx.heap[wr.heap.size + 1]? = some (.cells (zoCells O) 39 (0, 0)) ∧ Keeps No wr wx)
      case first =>
        have hfr := fun wx (hx : Keeps No W wx) => hx.blk hbo (not_No _)
        by_cases h1 : k = 0
        · have e1 : (k == 0) = true := by simp [h1]
          have hr : O = ⟨1, 1, 0, Va.zero, Va.zero⟩ := by rw [HOd.out, if_pos (.inl h1)]
          have Hr := Lib.hid hr
          have o1 := cell_of_row W _ 1 _ _ (0, 0) hbo
          have f1 := frozen_of_row W _ 1 _ _ hbo
          have hst := heap_setCell_same W (wr.heap.size + 1) 1 _ _ (.int .i64 1) hbo
          have hks := Keeps.set W (wr.heap.size + 1) 1 (.int .i64 1)
          have Hst := Lib.hid hst
          clear h1 hr hst
          go_wp2_with fail
          go_meet
          exact ⟨by rw [Hr.out]; exact Hst.out, (hkW.trans hks (fun i hi e => by omega))⟩
        have e1 : (k == 0) = false := by simp [h1]
        cases h2 : rightV ⟨k, nn, s, f⟩
        · have hr : O = ⟨1, 1, 0, Va.zero, Va.zero⟩ := by rw [HOd.out, if_pos (.inr h2)]
          rw [h2] at hright
          have Hr := Lib.hid hr
          clear h1 hr h2
          go_wp2_with fail
          refine (hright _).mono ?_
          rintro e w4 ⟨rfl, hk4⟩
          have hb4 := hk4.blk hbo (not_No _)
          have o1 := cell_of_row w4 _ 1 _ _ (0, 0) hb4
          have f1 := frozen_of_row w4 _ 1 _ _ hb4
          have hst := heap_setCell_same w4 (wr.heap.size + 1) 1 _ _ (.int .i64 1) hb4
          have hks := Keeps.set w4 (wr.heap.size + 1) 1 (.int .i64 1)
          have Hst := Lib.hid hst
          clear hst
          go_wp2_with fail
          go_meet
          exact ⟨by rw [Hr.out]; exact Hst.out, (hkW.transNo hk4).trans hks (fun i hi e => by omega)⟩
        rw [h2] at hright
        have H2 := Lib.hid h2
        have H1 := Lib.hid h1
        clear h1 h2
        cases h3 : nanV ⟨k, nn, s, f⟩
        · have hr : O = ⟨1, 0, 0, ⟨k, nn, s, f⟩, ⟨k, nn, s, f⟩⟩ := by rw [HOd.out, if_neg (by simp [H1.out, H2.out]), h3]; rfl
          rw [h3] at hnan
          have Hr := Lib.hid hr
          clear hr h3
          go_wp2_with fail
          refine (hright _).mono ?_
          rintro e w4 ⟨rfl, hk4⟩
          obtain ⟨b0, b1, b2, b3⟩ := row4 (hk4.blk hbv (not_No _))
          go_wp2_with fail
          refine (hnan _).mono ?_
          rintro e w5 ⟨rfl, hk5⟩
          have hbv5 := (hk4.transNo hk5).blk hbv (not_No _)
          have hbo5 : w5.drew.heap[wr.heap.size + 1]? = _ := (hk4.transNo hk5).blk hbo (not_No _)
          have hk05 := hkW.transNo (hk4.transNo hk5)
          have hfam := fun wx (hx : Keeps (fun k => k = wr.heap.size + 1) w5 wx) => row4 (hx.blk hbv5 (show ¬ wr.heap.size = wr.heap.size + 1 by omega))
          go_wp2_with fail
          refine wp_region_held_drew (S := fun wx => Keeps (fun k => k = wr.heap.size + 1) w5 wx) (by kernel_rfl) ((Keeps.refl _ _).drew) (fun hS => ?_)
          refine tk (i := 0) (oi := ⟨some 14, _, _, _, _, _⟩) (v := ?_) rfl (by kernel_rfl) (fun _ _ _ h => h) (by assumption) (by rfl) (fun w hSw => ?_) ?_; rotate_left; (focus (first | (go_simp; done) | (go_simp; with_reducible rfl))); simp only [Act.put, List.setIfInBounds_toArray, List.set_cons_zero, List.set_cons_succ]
          refine tk (i := 1) (oi := ⟨some 15, _, _, _, _, _⟩) (v := ?_) rfl (by kernel_rfl) (fun _ _ _ h => h) (by assumption) (by rfl) (fun w hSw => ?_) ?_; rotate_left; (focus (first | (go_simp; done) | (go_simp; with_reducible rfl))); simp only [Act.put, List.setIfInBounds_toArray, List.set_cons_zero, List.set_cons_succ]
          refine tk (i := 2) (oi := ⟨some 16, _, _, _, _, _⟩) (v := ?_) rfl (by kernel_rfl) (fun _ _ _ h => h) (by assumption) (by rfl) (fun w hSw => ?_) ?_; rotate_left; (focus (first | (go_simp; done) | (go_simp; with_reducible rfl))); simp only [Act.put, List.setIfInBounds_toArray, List.set_cons_zero, List.set_cons_succ]
          refine alone (i := 3) (oi := ⟨none, _, _, _, _, _⟩) rfl (by kernel_rfl) (by rfl) (fun K hK => ?_)
          refine wp_storeMid 37 (.tmp 16) (.tmp 14) rfl (wr.heap.size + 1) 3 #[.int .i64 k, .int .i64 nn, .string s, .int .u64 (f : Int)] rfl rfl 39 _ _ hbo5 (by kernel_rfl) (by simp) (by kernel_rfl) rfl ?_
          intro w6 hb6 hz6 hk6
          refine hK.out (fun wx => Keeps (fun k => k = wr.heap.size + 1) w5 wx) _ _ (fun _ h => h) (hS.trans hk6 (fun _ _ h => h)) ?_
          clear hK K hS
          intro hS
          refine tk (i := 4) (oi := ⟨some 17, _, _, _, _, _⟩) (v := ?_) rfl (by kernel_rfl) (fun _ _ _ h => h) (by assumption) (by rfl) (fun w hSw => ?_) ?_; rotate_left; (focus (first | (go_simp; done) | (go_simp; with_reducible rfl))); simp only [Act.put, List.setIfInBounds_toArray, List.set_cons_zero, List.set_cons_succ]
          refine alone (i := 5) (oi := ⟨none, _, _, _, _, _⟩) rfl (by kernel_rfl) (by rfl) (fun K hK => ?_)
          refine wp_storeMid 37 (.tmp 17) (.tmp 15) rfl (wr.heap.size + 1) 7 #[.int .i64 k, .int .i64 nn, .string s, .int .u64 (f : Int)] rfl rfl 39 _ _ hb6 (by kernel_rfl) (by simp) (by kernel_rfl) rfl ?_
          intro w7 hb7 hz7 hk7
          refine hK.out (fun wx => Keeps (fun k => k = wr.heap.size + 1) w5 wx) _ _ (fun _ h => h) (hS.trans hk7 (fun _ _ h => h)) ?_
          clear hK K hS
          intro hS
          refine wpAnyH_done (by kernel_rfl) ?_ _
          clear hS
          go_wp2_with fail
          go_meet
          exact ⟨by rw [Hr.out]; exact hb7, (hk05.drew.trans hk6 (fun i hi e => by omega)).trans hk7 (fun i hi e => by omega)⟩
        · have hr : O = ⟨1, 0, 1, Va.zero, Va.zero⟩ := by rw [HOd.out, if_neg (by simp [H1.out, H2.out]), h3]; rfl
          rw [h3] at hnan
          have Hr := Lib.hid hr
          clear hr h3
          go_wp2_with fail
          refine (hright _).mono ?_
          rintro e w4 ⟨rfl, hk4⟩
          obtain ⟨b0, b1, b2, b3⟩ := row4 (hk4.blk hbv (not_No _))
          go_wp2_with fail
          refine (hnan _).mono ?_
          rintro e w5 ⟨rfl, hk5⟩
          have hb4 := (hk4.transNo hk5).blk hbo (not_No _)
          have o1 := cell_of_row w5 _ 2 _ _ (0, 0) hb4
          have f1 := frozen_of_row w5 _ 2 _ _ hb4
          have hst := heap_setCell_same w5 (wr.heap.size + 1) 2 _ _ (.int .i64 1) hb4
          have hks := Keeps.set w5 (wr.heap.size + 1) 2 (.int .i64 1)
          have Hst := Lib.hid hst
          clear hst
          go_wp2_with fail
          go_meet
          exact ⟨by rw [Hr.out]; exact Hst.out, (hkW.transNo (hk4.transNo hk5)).trans hks (fun i hi e => by omega)⟩
      case rest =>
        obtain ⟨hbc, hkc⟩ := hcut
        have hbzc := hkc.blk hbz (not_No _)
        have hbrc := hkc.blk hbr (not_No _)
        have hkwc := hkr.transNo hkc
        have hjoin := fun wx => join_any Z O hZw hOw wx
        obtain ⟨J, hJ⟩ : ∃ J, J = joinZ Z O := ⟨_, rfl⟩
        rw [← hJ] at hjoin
        have hsn2 : ofZ (l.take (j + 1)) = J := by rw [Hsn.out, hJ, HO.out]
        have Hsn2 := Lib.hid hsn2
        clear hJ hsn2 HO HOd Hsn hright hnan a0 a1 a2 a3 hbv hbo hkW hzW hZw hOw hvw
        obtain ⟨r1, r2, r3, ⟨r4, r5, r6, r7⟩, ⟨r8, r9, r10, r11⟩⟩ := Z
        obtain ⟨o1, o2, o3, ⟨o4, o5, o6, o7⟩, ⟨o8, o9, o10, o11⟩⟩ := O
        obtain ⟨j1, j2, j3, ⟨j4, j5, j6, j7⟩, ⟨j8, j9, j10, j11⟩⟩ := J
        unfold Zo.agg at hjoin
        simp only at hjoin
        have hbz2 : wc.heap[w.heap.size + 1]? = some (.cells #[.int .i64 r1, .int .i64 r2, .int .i64 r3, .int .i64 r4, .int .i64 r5, .string r6, .int .u64 (r7 : Int), .int .i64 r8, .int .i64 r9, .string r10, .int .u64 (r11 : Int)] 39 (0, 0)) := hbzc
        have hbo2 : wc.heap[wr.heap.size + 1]? = some (.cells #[.int .i64 o1, .int .i64 o2, .int .i64 o3, .int .i64 o4, .int .i64 o5, .string o6, .int .u64 (o7 : Int), .int .i64 o8, .int .i64 o9, .string o10, .int .u64 (o11 : Int)] 39 (0, 0)) := hbc
        clear hbzc hbc
        obtain ⟨z0, z1, z2, z3, z4, z5, z6, z7, z8, z9, z10⟩ := row11 hbz2
        obtain ⟨y0, y1, y2, y3, y4, y5, y6, y7, y8, y9, y10⟩ := row11 hbo2
        go_wp2_with fail
        refine (hjoin _).mono ?_
        rintro e w6 ⟨rfl, hk6⟩
        have hbz6 := hk6.blk hbz2 (not_No _)
        have hbr6 := hk6.blk hbrc (not_No _)
        have hkw6 := hkwc.transNo hk6
        have z6 := hk6.size
        have zc := hkc.size
        clear hjoin z0 z1 z2 z3 z4 z5 z6 z7 z8 z9 z10 y0 y1 y2 y3 y4 y5 y6 y7 y8 y9 y10
        go_wp2_with (refine wpList_storeRow rfl 39 (.tmp 3) (.tmp 34) rfl (w.heap.size + 1) #[.int .i64 j1, .int .i64 j2, .int .i64 j3, .int .i64 j4, .int .i64 j5, .string j6, .int .u64 (j7 : Int), .int .i64 j8, .int .i64 j9, .string j10, .int .u64 (j11 : Int)] rfl rfl 39 _ hbz6 (by kernel_rfl) rfl (by kernel_rfl) ?_)
        intro w7 hb7 hz7 hk7
        go_wp2_with fail
        go_roundg (n - (j + 1))
        case rel =>
          refine ⟨j + 1, by go_num, by omega, rfl, ?_, hk7.blk hbr6 (show ¬ w.heap.size = w.heap.size + 1 by omega), hkw6.trans hk7 (fun i hi e => by omega)⟩
          rw [Hsn2.out]
          exact hb7
        case measure => have := Hq.out; omega
    · obtain rfl : j = n := by omega
      rw [List.take_of_length_le (by rw [Hlen.out]; exact Nat.le_refl _)] at hbz
      obtain ⟨Z, hZ⟩ : ∃ Z, Z = ofZ l := ⟨_, rfl⟩
      rw [← hZ] at hbz
      have HZ := Lib.hid hZ
      clear hZ
      obtain ⟨r1, r2, r3, ⟨r4, r5, r6, r7⟩, ⟨r8, r9, r10, r11⟩⟩ := Z
      have hbz2 : wr.heap[w.heap.size + 1]? = some (.cells #[.int .i64 r1, .int .i64 r2, .int .i64 r3, .int .i64 r4, .int .i64 r5, .string r6, .int .u64 (r7 : Int), .int .i64 r8, .int .i64 r9, .string r10, .int .u64 (r11 : Int)] 39 (0, 0)) := hbz
      have hbr2 : wr.heap[w.heap.size]? = some (.cells #[.int .i64 0, .int .i64 0, .int .i64 0, .int .i64 0, .int .i64 0, .string ⟨#[]⟩, .int .u64 0, .int .i64 0, .int .i64 0, .string ⟨#[]⟩, .int .u64 0] 39 (0, 0)) := hbr
      clear hbz hbr
      obtain ⟨z0, z1, z2, z3, z4, z5, z6, z7, z8, z9, z10⟩ := row11 hbz2
      go_wp2_with (refine wpList_storeRow rfl 39 (.tmp 2) (.tmp 36) rfl w.heap.size #[.int .i64 r1, .int .i64 r2, .int .i64 r3, .int .i64 r4, .int .i64 r5, .string r6, .int .u64 (r7 : Int), .int .i64 r8, .int .i64 r9, .string r10, .int .u64 (r11 : Int)] rfl rfl 39 _ hbr2 (by kernel_rfl) rfl (by kernel_rfl) ?_)
      intro w7 hb7 hz7 hk7
      go_wp2_with fail
      (try simp only [Exit.inBlock, Exit.then]); refine bodyPost_ret (results_cell_row rfl _ _ _ _ _ _ _ rfl hb7 Try.underlying39 rfl (by kernel_rfl)) rfl ?_
      exact ⟨by rw [← HZ.out]; rfl, hkr.trans hk7 (fun i hi e => by omega)⟩

end Go.Proofs.Ytmhmpnbcjcmnnaa
