/- The walks of page.Write, page.Read. -/
import Derived.Test.YthimnkmoeonheaaDoorPageH
import Derived.Test.YthimnkmoeonheaaDoorVaultF
namespace Go.Proofs.YthimnkmoeonheaaDoor
open Go.RowKit
set_option linter.unusedSimpArgs false
set_option linter.unusedVariables false
set_option maxRecDepth 100000

def besS (p : PG) (b : Int) : ByteArray := ⟨(besideA p b).toArray⟩
def pwriteA (D : DS) (A : List AE) (G : List K3) (blk : Int) (p : PG) (plain : List UInt8) : DS × List AE × Int :=
  if blk < 0 ∨ (D.K.length : Int) ≤ blk then (D, A, 2)
  else if (sealA A G p.1 (besS p blk) plain).2.2 = 0 then ((D.write blk (bytes8 (sealA A G p.1 (besS p blk) plain).2.1)).1, (sealA A G p.1 (besS p blk) plain).1, (D.write blk (bytes8 (sealA A G p.1 (besS p blk) plain).2.1)).2)
  else (D, (sealA A G p.1 (besS p blk) plain).1, (sealA A G p.1 (besS p blk) plain).2.2)
def preadA (D : DS) (A : List AE) (G : List K3) (blk : Int) (p : PG) : List UInt8 × Int :=
  if (D.read blk).2 = 0 then (if (handleA (D.read blk).1).2 = true then openA A G p.1 (besS p blk) (handleA (D.read blk).1).1 else ([], 51)) else ([], (D.read blk).2)

/-- A device and a vault, apart from each other; F: their blocks. -/
def PV (w : World) (bd bv : Nat) (F : Nat → Prop) (D : DS) (A : List AE) (G : List K3) : Prop :=
  ∃ Fd Fv, Dv w bd Fd D ∧ VF w bv Fv A G ∧ (∀ i, Fd i → ¬ Fv i) ∧ (∀ i, Fd i → F i) ∧ (∀ i, Fv i → F i) ∧ ∀ i, F i → i < w.heap.size
namespace PV
variable {w w' : World} {bd bv : Nat} {F : Nat → Prop} {D : DS} {A : List AE} {G : List K3}
theorem lt (h : PV w bd bv F D A G) : ∀ i, F i → i < w.heap.size := by obtain ⟨_, _, _, _, _, _, _, h⟩ := h; exact h
theorem keep {S : Nat → Prop} (h : PV w bd bv F D A G) (k : Keeps S w w') (hS : ∀ i, F i → ¬ S i) : PV w' bd bv F D A G := by
  obtain ⟨Fd, Fv, h1, h2, h3, h4, h5, h6⟩ := h
  exact ⟨Fd, Fv, h1.keep k (fun i hi => hS i (h4 i hi)), h2.keep k (fun i hi => hS i (h5 i hi)), h3, h4, h5, fun i hi => Nat.lt_of_lt_of_le (h6 i hi) k.size⟩
theorem kept (h : PV w bd bv F D A G) (k : Keeps No w w') : PV w' bd bv F D A G := h.keep k fun _ _ => not_No _
/-- An act on the device. -/
theorem dev (h : PV w bd bv F D A G) : ∃ Fd, Dv w bd Fd D ∧ (∀ i, Fd i → F i) ∧ ∀ w' Fd' D', Dv w' bd Fd' D' → Step Fd Fd' w w' → ∃ F', PV w' bd bv F' D' A G ∧ Step F F' w w' := by
  obtain ⟨Fd, Fv, h1, h2, h3, h4, h5, h6⟩ := h
  refine ⟨Fd, h1, h4, fun w' Fd' D' hd s => ⟨fun i => F i ∨ Fd' i, ⟨Fd', Fv, hd, h2.keep s.keeps (fun i hv hd => h3 i hd hv), s.apart h3 h2.lt, fun i hi => .inr hi, fun i hi => .inl (h5 i hi), fun i hi => ?_⟩, ⟨s.keeps.mono (fun i _ hi => h4 i hi), fun i hi => ?_⟩⟩⟩
  · rcases hi with hi | hi
    · exact Nat.lt_of_lt_of_le (h6 i hi) s.keeps.size
    · exact hd.lt i hi
  · rcases hi with hi | hi
    · exact .inl hi
    · exact (s.fresh i hi).elim (fun h => .inl (h4 i h)) .inr
/-- An act on the vault. -/
theorem vault (h : PV w bd bv F D A G) : ∃ Fv, VF w bv Fv A G ∧ (∀ i, Fv i → F i) ∧ ∀ w' Fv' A' G', VF w' bv Fv' A' G' → Step Fv Fv' w w' → ∃ F', PV w' bd bv F' D A' G' ∧ Step F F' w w' := by
  obtain ⟨Fd, Fv, h1, h2, h3, h4, h5, h6⟩ := h
  refine ⟨Fv, h2, h5, fun w' Fv' A' G' hv s => ⟨fun i => F i ∨ Fv' i, ⟨Fd, Fv', h1.keep s.keeps (fun i hd hv => h3 i hd hv), hv, fun i hd hv' => s.apart (fun i hv hd => h3 i hd hv) h1.lt i hv' hd, fun i hi => .inl (h4 i hi), fun i hi => .inr hi, fun i hi => ?_⟩, ⟨s.keeps.mono (fun i _ hi => h5 i hi), fun i hi => ?_⟩⟩⟩
  · rcases hi with hi | hi
    · exact Nat.lt_of_lt_of_le (h6 i hi) s.keeps.size
    · exact hv.lt i hi
  · rcases hi with hi | hi
    · exact .inl hi
    · exact (s.fresh i hi).elim (fun h => .inl (h5 i h)) .inr
end PV

theorem pread_nilD (bv : Option Addr) (blk : Int) (p : PG) (w : World) :
    Calls Tryd.prog 16 #[.pointer none, .pointer bv, .int .i64 blk, .agg (pgCells p).toArray] w fun e w' => e = .returned (.tuple #[.slice none 0 0, .int .i64 1]) ∧ Keeps No w w' := by
  unfold pgCells
  go_enter Tryd.func16, Tryd.ntmps16
  go_wp2_with fail
  go_ret2
  exact ⟨rfl, (Keeps.refl No w).alloc _⟩
theorem pread_nilV (bd : Nat) (blk : Int) (p : PG) (w : World) :
    Calls Tryd.prog 16 #[.pointer (some ⟨bd, 0, none⟩), .pointer none, .int .i64 blk, .agg (pgCells p).toArray] w fun e w' => e = .returned (.tuple #[.slice none 0 0, .int .i64 1]) ∧ Keeps No w w' := by
  unfold pgCells
  go_enter Tryd.func16, Tryd.ntmps16
  go_wp2_with fail
  go_ret2
  exact ⟨rfl, (Keeps.refl No w).alloc _⟩

set_option maxHeartbeats 2000000 in
theorem pread_any (bd bv : Nat) (F : Nat → Prop) (D : DS) (A : List AE) (G : List K3) (blk : Int) (p : PG) (w : World) (h : PV w bd bv F D A G) (hb : (Lit.int .i64 blk).wf = true) (hA : A.length ≤ 1099511627776) :
    Calls Tryd.prog 16 #[.pointer (some ⟨bd, 0, none⟩), .pointer (some ⟨bv, 0, none⟩), .int .i64 blk, .agg (pgCells p).toArray] w fun e w' =>
      ∃ v, e = .returned (.tuple #[v, .int .i64 (preadA D A G blk p).2]) ∧ Keeps No w w' ∧ w'.ownsRow w.heap.size 5 1 v (preadA D A G blk p).1.length ((preadA D A G blk p).1.map byteV) := by
  obtain ⟨Fd, Fv, h1, h2, h3, h4, h5, h6⟩ := h
  have hkA : Keeps No w (w.alloc (.cells (pgCells p).toArray 25)) := (Keeps.refl No w).alloc _
  have hbA := heap_alloc_new w (.cells (pgCells p).toArray 25)
  have hrd := d_read bd Fd D blk _ (h1.kept hkA)
  have hR16 : (D.read blk).1.length ≤ 140737488351232 := by
    unfold DS.read
    split
    · split
      · simp
      · rename_i hr _
        have hk := h1.ok
        unfold rightD at hr
        simp at hr
        have hj : blk.toNat < D.K.length := by omega
        have := lastW_len D.W (fun x hx => (hk.ww x hx).1) blk.toNat (D.K.getD blk.toNat []) (hk.kw _ (by simp [hj]))
        show (D.at_ blk.toNat).length ≤ _
        unfold DS.at_
        omega
    · simp
  obtain ⟨R, hR⟩ : ∃ R, R = D.read blk := ⟨_, rfl⟩
  obtain ⟨P, hP⟩ : ∃ P, P = preadA D A G blk p := ⟨_, rfl⟩
  rw [← hP]
  unfold preadA at hP
  rw [← hR] at hrd hP hR16
  have HP := Lib.hid hP
  have HR := Lib.hid hR
  have hbs := fun wx => beside_any p blk wx hb
  clear hP hR hb
  unfold pgCells at hkA hbA hrd hbs ⊢
  go_enter Tryd.func16, Tryd.ntmps16
  go_wp2_with fail
  refine hrd.mono ?_
  rintro e w1 ⟨v1, rfl, hown1, hk1⟩
  have hk01 := hkA.transNo hk1
  have hz1 := hk01.size
  by_cases he : R.2 = 0
  case neg =>
    have q1 : (R.2 == 0) = false := by rw [beq_eq_false_iff_ne]; exact he
    have q2 : (R.2 != 0) = true := by rw [bne, q1]; rfl
    have Hf := Lib.hid (show P = ([], R.2) from by rw [HP.out, if_neg he])
    clear he
    go_wp2_with fail
    go_ret2
    exact ⟨.slice none 0 0, by rw [Hf.out]; rfl, hk01, by rw [Hf.out]; exact World.ownsRow_nil _ _ _ _⟩
  have q1 : (R.2 == 0) = true := by rw [beq_iff_eq]; exact he
  have q2 : (R.2 != 0) = false := by rw [bne, q1]; rfl
  have HP2 := Lib.hid (show P = if (handleA R.1).2 = true then openA A G p.1 (besS p blk) (handleA R.1).1 else ([], 51) from by rw [HP.out, if_pos he])
  obtain ⟨a1, c1, rfl, hs1, _⟩ := Sl.ofOwn hown1
  clear he HP
  have hh := handle_any a1 _ c1 R.1 w1 hs1
  have hhl : (handleA R.1).1 < 18446744073709551616 := by
    unfold handleA
    split
    · rename_i h
      exact hOf_lt _ (by omega)
    · decide
  go_wp2_with fail
  refine hh.mono ?_
  rintro e w2 ⟨rfl, hk2⟩
  have hk02 := hk01.transNo hk2
  clear hh hrd
  generalize handleA R.1 = H at HP2 hhl ⊢
  obtain ⟨hv, ok⟩ := H
  simp only at hhl ⊢
  cases ok
  · have Hf := Lib.hid (show P = ([], 51) from by rw [HP2.out]; simp)
    go_wp2_with fail
    go_ret2
    exact ⟨.slice none 0 0, by rw [Hf.out]; rfl, hk02, by rw [Hf.out]; exact World.ownsRow_nil _ _ _ _⟩
  have Hf := Lib.hid (show P = openA A G p.1 (besS p blk) hv from by rw [HP2.out]; simp)
  have hb2 := (hk1.transNo hk2).blk hbA (not_No _)
  have hv2 := h2.kept hk02
  have hz2 := hk2.size
  clear HP2
  go_wp2_with fail
  refine wp_region_held_drew (S := fun wx => Keeps No w2 wx ∧ wx.cell? ⟨w.heap.size, 0, none⟩ = some (.int .i64 p.1.1.1) ∧ wx.cell? ⟨w.heap.size, 1, none⟩ = some (.int .i64 p.1.2.1.1) ∧ wx.cell? ⟨w.heap.size, 2, none⟩ = some (.int .i64 p.1.2.2.1) ∧ wx.cell? ⟨w.heap.size, 3, none⟩ = some (.int .i64 p.2.1.1) ∧ wx.cell? ⟨w.heap.size, 4, none⟩ = some (.int .i64 p.2.2.1)) (by kernel_rfl) (⟨(Keeps.refl _ _).drew, pg_cells (w := w2.drew) (p := p) hb2⟩) (fun hS => ?_)
  refine tk (i := 0) (oi := ⟨some 36, _, _, _, _, _⟩) (v := ?_) rfl (by kernel_rfl) (fun _ _ _ h => h) (by assumption) (by rfl) (fun w hSw => ?_) ?_; rotate_left; (focus (first | (go_simp; done) | (go_simp; with_reducible rfl))); simp only [Act.put, List.setIfInBounds_toArray, List.set_cons_zero, List.set_cons_succ]
  refine tk (i := 1) (oi := ⟨some 37, _, _, _, _, _⟩) (v := ?_) rfl (by kernel_rfl) (fun _ _ _ h => h) (by assumption) (by rfl) (fun w hSw => ?_) ?_; rotate_left; (focus (first | (go_simp; done) | (go_simp; with_reducible rfl))); simp only [Act.put, List.setIfInBounds_toArray, List.set_cons_zero, List.set_cons_succ]
  refine tk (i := 2) (oi := ⟨some 38, _, _, _, _, _⟩) (v := ?_) rfl (by kernel_rfl) (fun _ _ _ h => h) (by assumption) (by rfl) (fun w hSw => ?_) ?_; rotate_left; (focus (first | (go_simp; done) | (go_simp; with_reducible rfl))); simp only [Act.put, List.setIfInBounds_toArray, List.set_cons_zero, List.set_cons_succ]
  refine tk (i := 3) (oi := ⟨some 39, _, _, _, _, _⟩) (v := ?_) rfl (by kernel_rfl) (fun _ _ _ h => h) (by assumption) (by rfl) (fun w hSw => ?_) ?_; rotate_left; (focus (first | (go_simp; done) | (go_simp; with_reducible rfl))); simp only [Act.put, List.setIfInBounds_toArray, List.set_cons_zero, List.set_cons_succ]
  refine tk (i := 4) (oi := ⟨some 40, _, _, _, _, _⟩) (v := ?_) rfl (by kernel_rfl) (fun _ _ _ h => h) (by assumption) (by rfl) (fun w hSw => ?_) ?_; rotate_left; (focus (first | (go_simp; done) | (go_simp; with_reducible rfl))); simp only [Act.put, List.setIfInBounds_toArray, List.set_cons_zero, List.set_cons_succ]
  refine tk (i := 6) (oi := ⟨some 42, _, _, _, _, _⟩) (v := ?_) rfl (by kernel_rfl) (fun _ _ _ h => h) (by assumption) (by rfl) (fun w hSw => ?_) ?_; rotate_left; (focus (first | (go_simp; done) | (go_simp; with_reducible rfl))); simp only [Act.put, List.setIfInBounds_toArray, List.set_cons_zero, List.set_cons_succ]
  refine alone (i := 5) (oi := ⟨some 41, _, _, _, _, _⟩) rfl (by kernel_rfl) (by rfl) (fun K hK => ?_); go_simp
  refine (hbs _).mono ?_
  rintro e w3 ⟨rfl, hk3⟩
  have hk23 := hS.1.transNo hk3
  go_simp
  refine hK.out (fun wx => Keeps No w2 wx ∧ wx.cell? ⟨w.heap.size, 0, none⟩ = some (.int .i64 p.1.1.1) ∧ wx.cell? ⟨w.heap.size, 1, none⟩ = some (.int .i64 p.1.2.1.1) ∧ wx.cell? ⟨w.heap.size, 2, none⟩ = some (.int .i64 p.1.2.2.1) ∧ wx.cell? ⟨w.heap.size, 3, none⟩ = some (.int .i64 p.2.1.1) ∧ wx.cell? ⟨w.heap.size, 4, none⟩ = some (.int .i64 p.2.2.1)) _ _ (fun _ h => h) (⟨hk23, pg_cells (p := p) (hk23.blk hb2 (not_No _))⟩) ?_
  clear hK K hS
  intro hS
  refine alone (i := 7) (oi := ⟨some 43, _, _, _, _, _⟩) rfl (by kernel_rfl) (by rfl) (fun K hK => ?_); go_simp
  have hS0 := hS.1
  refine (f_open bv Fv A G p.1 (besS p blk) hv _ (hv2.kept hS.1) hhl hA).mono ?_
  rintro e w4 ⟨v4, rfl, hk4, hown4⟩
  have hk24 := hS.1.transNo hk4
  go_simp
  refine hK.out (fun wx => Keeps No w2 wx ∧ wx.cell? ⟨w.heap.size, 0, none⟩ = some (.int .i64 p.1.1.1) ∧ wx.cell? ⟨w.heap.size, 1, none⟩ = some (.int .i64 p.1.2.1.1) ∧ wx.cell? ⟨w.heap.size, 2, none⟩ = some (.int .i64 p.1.2.2.1) ∧ wx.cell? ⟨w.heap.size, 3, none⟩ = some (.int .i64 p.2.1.1) ∧ wx.cell? ⟨w.heap.size, 4, none⟩ = some (.int .i64 p.2.2.1)) _ _ (fun _ h => h) (⟨hk24, pg_cells (p := p) (hk24.blk hb2 (not_No _))⟩) ?_
  clear hK K hS
  intro hS
  refine tk (i := 8) (oi := ⟨some 44, _, _, _, _, _⟩) (v := ?_) rfl (by kernel_rfl) (fun _ _ _ h => h) (by assumption) (by rfl) (fun w hSw => ?_) ?_; rotate_left; (focus (first | (go_simp; done) | (go_simp; with_reducible rfl))); simp only [Act.put, List.setIfInBounds_toArray, List.set_cons_zero, List.set_cons_succ]
  refine tk (i := 9) (oi := ⟨some 45, _, _, _, _, _⟩) (v := ?_) rfl (by kernel_rfl) (fun _ _ _ h => h) (by assumption) (by rfl) (fun w hSw => ?_) ?_; rotate_left; (focus (first | (go_simp; done) | (go_simp; with_reducible rfl))); simp only [Act.put, List.setIfInBounds_toArray, List.set_cons_zero, List.set_cons_succ]
  refine tk (i := 10) (oi := ⟨some 8, _, _, _, _, _⟩) (v := ?_) rfl (by kernel_rfl) (fun _ _ _ h => h) (by assumption) (by rfl) (fun w hSw => ?_) ?_; rotate_left; (focus (first | (go_simp; done) | (go_simp; with_reducible rfl))); simp only [Act.put, List.setIfInBounds_toArray, List.set_cons_zero, List.set_cons_succ]
  refine tk (i := 11) (oi := ⟨some 9, _, _, _, _, _⟩) (v := ?_) rfl (by kernel_rfl) (fun _ _ _ h => h) (by assumption) (by rfl) (fun w hSw => ?_) ?_; rotate_left; (focus (first | (go_simp; done) | (go_simp; with_reducible rfl))); simp only [Act.put, List.setIfInBounds_toArray, List.set_cons_zero, List.set_cons_succ]
  refine wpAnyH_done (by kernel_rfl) ?_ _
  go_wp2_with fail
  go_ret2
  exact ⟨v4, by rw [Hf.out]; rfl, hk02.transNo hS.1, by rw [Hf.out]; exact own_le hown4 (by have := hS0.size; omega)⟩

theorem pwrite_nilD (bv : Option Addr) (blk : Int) (p : PG) (a : Option Addr) (n c : Nat) (w : World) :
    Calls Tryd.prog 15 #[.pointer none, .pointer bv, .int .i64 blk, .agg (pgCells p).toArray, .slice a n c] w fun e w' => e = .returned (.int .i64 1) ∧ Keeps No w w' := by
  unfold pgCells
  go_enter Tryd.func15, Tryd.ntmps15
  go_wp2_with fail
  go_ret
  exact ⟨rfl, (Keeps.refl No w).alloc _⟩
theorem pwrite_nilV (bd : Nat) (blk : Int) (p : PG) (a : Option Addr) (n c : Nat) (w : World) :
    Calls Tryd.prog 15 #[.pointer (some ⟨bd, 0, none⟩), .pointer none, .int .i64 blk, .agg (pgCells p).toArray, .slice a n c] w fun e w' => e = .returned (.int .i64 1) ∧ Keeps No w w' := by
  unfold pgCells
  go_enter Tryd.func15, Tryd.ntmps15
  go_wp2_with fail
  go_ret
  exact ⟨rfl, (Keeps.refl No w).alloc _⟩

def PWPost (bd bv : Nat) (F : Nat → Prop) (R : DS × List AE × Int) (G : List K3) (w : World) (e : Ending) (w' : World) : Prop :=
  e = .returned (.int .i64 R.2.2) ∧ ∃ F', PV w' bd bv F' R.1 R.2.1 G ∧ Step F F' w w'
theorem bytes8_take (h k : Nat) (hk : k < 8) : (bytes8 h).take (k + 1) = (bytes8 h).take k ++ [UInt8.ofNat (h / 2 ^ (8 * k))] := by
  have : k < (bytes8 h).length := by rw [bytes8_len]; exact hk
  rw [List.take_succ_eq_append_getElem this]
  simp [bytes8]

set_option maxHeartbeats 2000000 in
theorem pwrite_any (bd bv : Nat) (F : Nat → Prop) (D : DS) (A : List AE) (G : List K3) (blk : Int) (p : PG) (a : Option Addr) (n c : Nat) (plain : List UInt8) (w : World) (h : PV w bd bv F D A G) (hb : (Lit.int .i64 blk).wf = true) (hA : A.length ≤ 1099511627776) (hW : D.W.length ≤ 1099511627776)
    (hs : Sl w a n c (plain.map byteV)) (hn : n ≤ 140737488351232) :
    Calls Tryd.prog 15 #[.pointer (some ⟨bd, 0, none⟩), .pointer (some ⟨bv, 0, none⟩), .int .i64 blk, .agg (pgCells p).toArray, .slice a n c] w (PWPost bd bv F (pwriteA D A G blk p plain) G w) := by
  have hkA : Keeps No w (w.alloc (.cells (pgCells p).toArray 25)) := (Keeps.refl No w).alloc _
  have hbA := heap_alloc_new w (.cells (pgCells p).toArray 25)
  obtain ⟨P, hP⟩ : ∃ P, P = pwriteA D A G blk p plain := ⟨_, rfl⟩
  rw [← hP]
  unfold pwriteA at hP
  have HP := Lib.hid hP
  have hbs := fun wx => beside_any p blk wx hb
  have hPA := h.kept hkA
  have hblk := (show ∃ Fd, Dv (w.alloc (.cells (pgCells p).toArray 25)) bd Fd D from by obtain ⟨Fd, hd, _⟩ := hPA.dev; exact ⟨Fd, hd⟩)
  obtain ⟨Fd0, hd0⟩ := hblk
  have hbk := dblocks_any bd Fd0 D _ hd0
  have hlt := h.lt
  clear hP hb hd0
  unfold pgCells at hkA hbA hbs hPA hbk ⊢
  go_enter Tryd.func15, Tryd.ntmps15
  by_cases hneg : blk < 0
  · have Hf := Lib.hid (show P = (D, A, 2) from by rw [HP.out, if_pos (.inl hneg)])
    go_wp2_with fail
    go_ret
    exact ⟨by rw [Hf.out]; rfl, F, by rw [Hf.out]; exact hPA, Step.ofNo hkA⟩
  have n1 : decide (blk < 0) = false := by simp; omega
  by_cases hbig : (D.K.length : Int) ≤ blk
  · have Hf := Lib.hid (show P = (D, A, 2) from by rw [HP.out, if_pos (.inr hbig)])
    have n2 : decide ((D.K.length : Int) ≤ blk) = true := decide_eq_true hbig
    go_wp2_with fail
    refine hbk.mono ?_
    rintro e w1 ⟨rfl, rfl⟩
    go_wp2_with fail
    go_ret
    exact ⟨by rw [Hf.out]; rfl, F, by rw [Hf.out]; exact hPA, Step.ofNo hkA⟩
  have n2 : decide ((D.K.length : Int) ≤ blk) = false := decide_eq_false hbig
  have hP2 : P = if (sealA A G p.1 (besS p blk) plain).2.2 = 0 then ((D.write blk (bytes8 (sealA A G p.1 (besS p blk) plain).2.1)).1, (sealA A G p.1 (besS p blk) plain).1, (D.write blk (bytes8 (sealA A G p.1 (besS p blk) plain).2.1)).2)
      else (D, (sealA A G p.1 (besS p blk) plain).1, (sealA A G p.1 (besS p blk) plain).2.2) := by rw [HP.out, if_neg (fun h => h.elim hneg hbig)]
  have hSl : (sealA A G p.1 (besS p blk) plain).2.1 < 18446744073709551616 := by
    unfold sealA
    split
    · show 0 < _; omega
    · split
      · show 0 < _; omega
      · show A.length + 1 < _; omega
  obtain ⟨S, hS⟩ : ∃ S, S = sealA A G p.1 (besS p blk) plain := ⟨_, rfl⟩
  rw [← hS] at hP2 hSl
  have HP2 := Lib.hid hP2
  have HS := Lib.hid hS
  clear hP2 hS HP
  go_wp2_with fail
  refine hbk.mono ?_
  rintro e w1 ⟨rfl, rfl⟩
  clear hbk
  go_wp2_with fail
  obtain ⟨w0, hw0⟩ : ∃ w0, w0 = (w.alloc (.cells #[.int .i64 p.1.1.1, .int .i64 p.1.2.1.1, .int .i64 p.1.2.2.1, .int .i64 p.2.1.1, .int .i64 p.2.2.1] 25)) := ⟨_, rfl⟩
  have hz0 : w.heap.size < w0.heap.size := by rw [hw0]; simp
  rw [← hw0] at hkA hbA hPA ⊢
  clear hw0
  refine wp_region_held_drew (S := fun wx => wx.cell? ⟨w.heap.size, 0, none⟩ = some (.int .i64 p.1.1.1) ∧ wx.cell? ⟨w.heap.size, 1, none⟩ = some (.int .i64 p.1.2.1.1) ∧ wx.cell? ⟨w.heap.size, 2, none⟩ = some (.int .i64 p.1.2.2.1) ∧ wx.cell? ⟨w.heap.size, 3, none⟩ = some (.int .i64 p.2.1.1) ∧ wx.cell? ⟨w.heap.size, 4, none⟩ = some (.int .i64 p.2.2.1)) (by kernel_rfl) (pg_cells (w := w0.drew) (p := p) hbA) (fun hS => ?_)
  refine tk (i := 0) (oi := ⟨some 32, _, _, _, _, _⟩) (v := ?_) rfl (by kernel_rfl) (fun _ _ _ h => h) (by assumption) (by rfl) (fun w hSw => ?_) ?_; rotate_left; (focus (first | (go_simp; done) | (go_simp; with_reducible rfl))); simp only [Act.put, List.setIfInBounds_toArray, List.set_cons_zero, List.set_cons_succ]
  refine tk (i := 1) (oi := ⟨some 33, _, _, _, _, _⟩) (v := ?_) rfl (by kernel_rfl) (fun _ _ _ h => h) (by assumption) (by rfl) (fun w hSw => ?_) ?_; rotate_left; (focus (first | (go_simp; done) | (go_simp; with_reducible rfl))); simp only [Act.put, List.setIfInBounds_toArray, List.set_cons_zero, List.set_cons_succ]
  refine tk (i := 2) (oi := ⟨some 34, _, _, _, _, _⟩) (v := ?_) rfl (by kernel_rfl) (fun _ _ _ h => h) (by assumption) (by rfl) (fun w hSw => ?_) ?_; rotate_left; (focus (first | (go_simp; done) | (go_simp; with_reducible rfl))); simp only [Act.put, List.setIfInBounds_toArray, List.set_cons_zero, List.set_cons_succ]
  refine tk (i := 3) (oi := ⟨some 35, _, _, _, _, _⟩) (v := ?_) rfl (by kernel_rfl) (fun _ _ _ h => h) (by assumption) (by rfl) (fun w hSw => ?_) ?_; rotate_left; (focus (first | (go_simp; done) | (go_simp; with_reducible rfl))); simp only [Act.put, List.setIfInBounds_toArray, List.set_cons_zero, List.set_cons_succ]
  refine tk (i := 4) (oi := ⟨some 36, _, _, _, _, _⟩) (v := ?_) rfl (by kernel_rfl) (fun _ _ _ h => h) (by assumption) (by rfl) (fun w hSw => ?_) ?_; rotate_left; (focus (first | (go_simp; done) | (go_simp; with_reducible rfl))); simp only [Act.put, List.setIfInBounds_toArray, List.set_cons_zero, List.set_cons_succ]
  refine tk (i := 6) (oi := ⟨some 38, _, _, _, _, _⟩) (v := ?_) rfl (by kernel_rfl) (fun _ _ _ h => h) (by assumption) (by rfl) (fun w hSw => ?_) ?_; rotate_left; (focus (first | (go_simp; done) | (go_simp; with_reducible rfl))); simp only [Act.put, List.setIfInBounds_toArray, List.set_cons_zero, List.set_cons_succ]
  refine alone (i := 5) (oi := ⟨some 37, _, _, _, _, _⟩) rfl (by kernel_rfl) (by rfl) (fun K hK => ?_); go_simp
  refine (hbs _).mono ?_
  rintro e w3 ⟨rfl, hk3⟩
  have hk03 : Keeps No w0 w3 := hk3.ofDrew
  have hb3 := hk03.blk hbA (not_No _)
  have hP3 := hPA.kept hk03
  obtain ⟨Fv, hv3, hsub, back⟩ := hP3.vault
  go_simp
  refine hK.out (fun wx => wx.cell? ⟨w.heap.size, 0, none⟩ = some (.int .i64 p.1.1.1) ∧ wx.cell? ⟨w.heap.size, 1, none⟩ = some (.int .i64 p.1.2.1.1) ∧ wx.cell? ⟨w.heap.size, 2, none⟩ = some (.int .i64 p.1.2.2.1) ∧ wx.cell? ⟨w.heap.size, 3, none⟩ = some (.int .i64 p.2.1.1) ∧ wx.cell? ⟨w.heap.size, 4, none⟩ = some (.int .i64 p.2.2.1)) _ _ (fun _ h => h) (pg_cells (p := p) hb3) ?_
  clear hK K hS
  intro hS
  refine alone (i := 7) (oi := ⟨some 39, _, _, _, _, _⟩) rfl (by kernel_rfl) (by rfl) (fun K hK => ?_); go_simp
  refine (f_seal bv Fv A G p.1 (besS p blk) a n c plain _ hv3 (hs.kept (hkA.transNo hk03)) hn hA).mono ?_
  rintro e w4 ⟨rfl, Fv4, hv4, hs4⟩
  obtain ⟨F4, hP4, hS4⟩ := back _ _ _ _ hv4 hs4
  have hb4 := hS4.keeps.blk hb3 (fun h => by have := hlt _ h; omega)
  rw [← HS.out] at hP4 hv4 ⊢
  go_simp
  refine hK.out (fun wx => wx.cell? ⟨w.heap.size, 0, none⟩ = some (.int .i64 p.1.1.1) ∧ wx.cell? ⟨w.heap.size, 1, none⟩ = some (.int .i64 p.1.2.1.1) ∧ wx.cell? ⟨w.heap.size, 2, none⟩ = some (.int .i64 p.1.2.2.1) ∧ wx.cell? ⟨w.heap.size, 3, none⟩ = some (.int .i64 p.2.1.1) ∧ wx.cell? ⟨w.heap.size, 4, none⟩ = some (.int .i64 p.2.2.1)) _ _ (fun _ h => h) (pg_cells (p := p) hb4) ?_
  clear hK K hS
  intro hS
  refine tk (i := 8) (oi := ⟨some 31, _, _, _, _, _⟩) (v := ?_) rfl (by kernel_rfl) (fun _ _ _ h => h) (by assumption) (by rfl) (fun w hSw => ?_) ?_; rotate_left; (focus (first | (go_simp; done) | (go_simp; with_reducible rfl))); simp only [Act.put, List.setIfInBounds_toArray, List.set_cons_zero, List.set_cons_succ]
  refine tk (i := 9) (oi := ⟨some 40, _, _, _, _, _⟩) (v := ?_) rfl (by kernel_rfl) (fun _ _ _ h => h) (by assumption) (by rfl) (fun w hSw => ?_) ?_; rotate_left; (focus (first | (go_simp; done) | (go_simp; with_reducible rfl))); simp only [Act.put, List.setIfInBounds_toArray, List.set_cons_zero, List.set_cons_succ]
  refine tk (i := 10) (oi := ⟨some 41, _, _, _, _, _⟩) (v := ?_) rfl (by kernel_rfl) (fun _ _ _ h => h) (by assumption) (by rfl) (fun w hSw => ?_) ?_; rotate_left; (focus (first | (go_simp; done) | (go_simp; with_reducible rfl))); simp only [Act.put, List.setIfInBounds_toArray, List.set_cons_zero, List.set_cons_succ]
  refine tk (i := 11) (oi := ⟨some 11, _, _, _, _, _⟩) (v := ?_) rfl (by kernel_rfl) (fun _ _ _ h => h) (by assumption) (by rfl) (fun w hSw => ?_) ?_; rotate_left; (focus (first | (go_simp; done) | (go_simp; with_reducible rfl))); simp only [Act.put, List.setIfInBounds_toArray, List.set_cons_zero, List.set_cons_succ]
  refine tk (i := 12) (oi := ⟨some 12, _, _, _, _, _⟩) (v := ?_) rfl (by kernel_rfl) (fun _ _ _ h => h) (by assumption) (by rfl) (fun w hSw => ?_) ?_; rotate_left; (focus (first | (go_simp; done) | (go_simp; with_reducible rfl))); simp only [Act.put, List.setIfInBounds_toArray, List.set_cons_zero, List.set_cons_succ]
  refine wpAnyH_done (by kernel_rfl) ?_ _
  have hS04 : Step F F4 w w4 := Step.noTrans (hkA.transNo hk03) hS4
  clear hv3 hv4 hs4 back hS4 hP3 hPA hbs hS hb3 hbA
  by_cases he : S.2.2 = 0
  case neg =>
    have q1 : (S.2.2 == 0) = false := by rw [beq_eq_false_iff_ne]; exact he
    have q2 : (S.2.2 != 0) = true := by rw [bne, q1]; rfl
    have Hf := Lib.hid (show P = (D, S.1, S.2.2) from by rw [HP2.out, if_neg he])
    clear he
    go_wp2_with fail
    go_ret
    exact ⟨by rw [Hf.out]; rfl, F4, by rw [Hf.out]; exact hP4, hS04⟩
  have q1 : (S.2.2 == 0) = true := by rw [beq_iff_eq]; exact he
  have q2 : (S.2.2 != 0) = false := by rw [bne, q1]; rfl
  have Hf := Lib.hid (show P = ((D.write blk (bytes8 S.2.1)).1, S.1, (D.write blk (bytes8 S.2.1)).2) from by rw [HP2.out, if_pos he])
  clear he HP2
  generalize S.2.1 = h64 at hSl Hf ⊢
  go_wp2_with fail
  go_loopg [13, 45] 8 (fun q v i wr => ∃ (k : Nat), k ≤ 8 ∧ q = 8 - k ∧ i = .int .i64 (k : Int) ∧ wr.ownsRow w4.heap.size 5 1 v k (((bytes8 h64).take k).map byteV) ∧ Keeps No w4 wr)
  case atStart => exact ⟨0, by omega, rfl, rfl, World.ownsRow_nil _ _ _ _, Keeps.refl _ _⟩
  case round =>
    obtain ⟨k, hk, hq, rfl, hor, hkr⟩ := hrel
    have Hq := Lib.hid hq
    clear hq
    obtain ⟨av, cv, rfl, hsv, _⟩ := Sl.ofOwn hor
    by_cases hlt8 : k < 8
    · have hbv : (byteV (UInt8.ofNat (h64 / 2 ^ (8 * k)))) = .int .u8 ((h64 : Int) / 2 ^ (8 * k) % 256) := by
        unfold byteV
        congr 1
      have hlB := Sl.litK wr #[.int .u8 ((h64 : Int) / 2 ^ (8 * k) % 256)] 5 (0, 0) [UInt8.ofNat (h64 / 2 ^ (8 * k))] (by rw [List.map_cons, hbv, List.map_nil]) 1 rfl (by decide)
      have hkB : Keeps No wr (wr.alloc (.cells #[.int .u8 ((h64 : Int) / 2 ^ (8 * k) % 256)] 5)) := (Keeps.refl No wr).alloc _
      have hnx := bytes8_take h64 k hlt8
      have Hnx := Lib.hid hnx
      have hz4 := (hkr.transNo hkB).size
      clear hbv hnx
      go_wp2_with (at_builtin; refine app_own rfl (.tmp 48) (.tmp 54) 35 rfl w4.heap.size 5 (.int .u8 0) 1 Tryd.underlying35 byte_infoD rfl (by decide) _ k _ rfl (hkB.own hor (fun _ _ => not_No _)) _ 1 1 _ rfl hlB (byteV_one _) (by omega) hz4 ?_)
      intro v5 w5 hown5 hg5
      have hk5 : Keeps No w4 w5 := (hkr.transNo hkB).grown hg5 (fun i hi hlt => absurd hlt (by have := (hor.lt i hi).1; omega))
      replace hown5 : w5.ownsRow w4.heap.size 5 1 v5 (k + 1) (((bytes8 h64).take (k + 1)).map byteV) := by rw [Hnx.out, List.map_append]; simpa using hown5
      have Hown5 := Lib.hid hown5
      clear hown5 hg5 hlB
      go_wp2_with fail
      go_roundg (8 - (k + 1))
      case measure => have := Hq.out; omega
      case rel => exact ⟨k + 1, by omega, rfl, by go_num, Hown5.out, hk5⟩
    · obtain rfl : k = 8 := by omega
      rw [List.take_of_length_le (by rw [bytes8_len]; exact Nat.le_refl _)] at hsv
      have hP5 := hP4.kept hkr
      obtain ⟨Fd5, hd5, hsub5, back5⟩ := hP5.dev
      have hav : 0 < 8 → ¬ Fd5 (av.getD default).block := fun h0 hf => by
        have h1 := hP4.lt _ (hsub5 _ hf)
        have h2 := (hor.lt _ (by rw [hsv.isSome h0]; rfl)).1
        omega
      have hwr := d_write bd Fd5 D blk av 8 cv (bytes8 h64) wr hd5 hsv (by omega) hav hW
      go_wp2_with fail
      refine hwr.mono ?_
      rintro e w6 ⟨rfl, Fd6, hd6, hs6⟩
      obtain ⟨F6, hP6, hS6⟩ := back5 _ _ _ hd6 hs6
      go_wp2_with fail
      go_ret
      exact ⟨by rw [Hf.out]; rfl, F6, by rw [Hf.out]; exact hP6, hS04.trans (Step.noTrans hkr hS6)⟩
end Go.Proofs.YthimnkmoeonheaaDoor
