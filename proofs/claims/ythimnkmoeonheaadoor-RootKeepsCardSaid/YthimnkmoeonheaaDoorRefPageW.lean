/- The walks of the document's Write and Read of pages. -/
import Derived.Test.YthimnkmoeonheaaDoorRefPage
namespace Go.Proofs.YthimnkmoeonheaaDoor
open Go.RowKit
set_option linter.unusedSimpArgs false
set_option linter.unusedVariables false
set_option maxRecDepth 100000

/-- The document's vault at block b; F: its blocks. -/
def RVF (w : World) (b : Nat) (F : Nat → Prop) (A : List AE) (G : List K3) : Prop :=
  ∃ vl vg, RV w b vl vg A G ∧ (∀ i, RO b vl vg i → F i) ∧ ∀ i, F i → i < w.heap.size
theorem RVF.lt {w : World} {b : Nat} {F : Nat → Prop} {A : List AE} {G : List K3} (h : RVF w b F A G) : ∀ i, F i → i < w.heap.size := by obtain ⟨_, _, _, _, h⟩ := h; exact h
theorem RVF.keep {w w' : World} {b : Nat} {F S : Nat → Prop} {A : List AE} {G : List K3} (h : RVF w b F A G) (k : Keeps S w w') (hS : ∀ i, F i → ¬ S i) : RVF w' b F A G := by
  obtain ⟨vl, vg, h1, h2, h3⟩ := h
  exact ⟨vl, vg, h1.keep k (fun i hi => hS i (h2 i hi)), h2, fun i hi => Nat.lt_of_lt_of_le (h3 i hi) k.size⟩
theorem RVF.kept {w w' : World} {b : Nat} {F : Nat → Prop} {A : List AE} {G : List K3} (h : RVF w b F A G) (k : Keeps No w w') : RVF w' b F A G := h.keep k fun _ _ => not_No _
theorem rf_seal (b : Nat) (F : Nat → Prop) (A : List AE) (G : List K3) (k : K3) (bs : ByteArray) (p : List UInt8) (w : World) (hV : RVF w b F A G) (hp : p.length ≤ 140737488351232) (hG : G.length ≤ 1099511627776) (hA : A.length ≤ 1099511627776) :
    Calls Tryd.prog 45 #[.pointer (some ⟨b, 0, none⟩), .agg (keyCells k).toArray, .string bs, .string ⟨p.toArray⟩] w fun e w' =>
      e = .returned (.tuple #[.int .u64 ((sealA A G k bs p).2.1 : Int), .int .i64 (sealA A G k bs p).2.2]) ∧ ∃ F', RVF w' b F' (sealA A G k bs p).1 G ∧ Step F F' w w' := by
  obtain ⟨vl, vg, h1, h2, h3⟩ := hV
  refine (r_seal b vl vg A G k bs p w h1 hp hG hA).mono ?_
  rintro e w1 ⟨rfl, vl', r1, r2, r3⟩
  have hl := r1.lt
  refine ⟨rfl, fun i => F i ∨ (w.heap.size ≤ i ∧ i < w1.heap.size), ⟨vl', vg, r1, fun i hi => ?_, fun i hi => ?_⟩, ⟨r3.mono (fun i _ h => h2 i (.inl h)), fun i hi => hi.elim .inl (fun h => .inr h.1)⟩⟩
  · rcases hi with h | h | h
    · exact .inl (h2 i (.inl h))
    · rcases r2 i h with h' | h'
      · exact .inl (h2 i (.inr (.inl h')))
      · exact .inr ⟨h', hl i (.inr (.inl h))⟩
    · exact .inl (h2 i (.inr (.inr h)))
  · rcases hi with h | h
    · exact Nat.lt_of_lt_of_le (h3 i h) r3.size
    · exact h.2
theorem rf_open (b : Nat) (F : Nat → Prop) (A : List AE) (G : List K3) (k : K3) (bs : ByteArray) (h : Nat) (w : World) (hV : RVF w b F A G) (hh : h < 18446744073709551616) (hG : G.length ≤ 1099511627776) (hA : A.length ≤ 1099511627776) :
    Calls Tryd.prog 66 #[.pointer (some ⟨b, 0, none⟩), .agg (keyCells k).toArray, .string bs, .int .u64 (h : Int)] w fun e w' =>
      e = .returned (.tuple #[.string ⟨(openA A G k bs h).1.toArray⟩, .int .i64 (openA A G k bs h).2]) ∧ Keeps No w w' := by
  obtain ⟨vl, vg, h1, _⟩ := hV
  exact ropen_any b vl vg A G k bs h w h1 hh hG hA

/-- The document's device and vault, apart from each other; F: their blocks. -/
def PR (w : World) (bd bv : Nat) (F : Nat → Prop) (D : DS) (A : List AE) (G : List K3) : Prop :=
  ∃ Fd Fv, Rv w bd Fd D ∧ RVF w bv Fv A G ∧ (∀ i, Fd i → ¬ Fv i) ∧ (∀ i, Fd i → F i) ∧ (∀ i, Fv i → F i) ∧ ∀ i, F i → i < w.heap.size
namespace PR
variable {w w' : World} {bd bv : Nat} {F : Nat → Prop} {D : DS} {A : List AE} {G : List K3}
theorem lt (h : PR w bd bv F D A G) : ∀ i, F i → i < w.heap.size := by obtain ⟨_, _, _, _, _, _, _, h⟩ := h; exact h
theorem keep {S : Nat → Prop} (h : PR w bd bv F D A G) (k : Keeps S w w') (hS : ∀ i, F i → ¬ S i) : PR w' bd bv F D A G := by
  obtain ⟨Fd, Fv, h1, h2, h3, h4, h5, h6⟩ := h
  exact ⟨Fd, Fv, h1.keep k (fun i hi => hS i (h4 i hi)), h2.keep k (fun i hi => hS i (h5 i hi)), h3, h4, h5, fun i hi => Nat.lt_of_lt_of_le (h6 i hi) k.size⟩
theorem kept (h : PR w bd bv F D A G) (k : Keeps No w w') : PR w' bd bv F D A G := h.keep k fun _ _ => not_No _
/-- An act on the device. -/
theorem dev (h : PR w bd bv F D A G) : ∃ Fd, Rv w bd Fd D ∧ (∀ i, Fd i → F i) ∧ ∀ w' Fd' D', Rv w' bd Fd' D' → Step Fd Fd' w w' → ∃ F', PR w' bd bv F' D' A G ∧ Step F F' w w' := by
  obtain ⟨Fd, Fv, h1, h2, h3, h4, h5, h6⟩ := h
  refine ⟨Fd, h1, h4, fun w' Fd' D' hd s => ⟨fun i => F i ∨ Fd' i, ⟨Fd', Fv, hd, h2.keep s.keeps (fun i hv hd => h3 i hd hv), s.apart h3 h2.lt, fun i hi => .inr hi, fun i hi => .inl (h5 i hi), fun i hi => ?_⟩, ⟨s.keeps.mono (fun i _ hi => h4 i hi), fun i hi => ?_⟩⟩⟩
  · rcases hi with hi | hi
    · exact Nat.lt_of_lt_of_le (h6 i hi) s.keeps.size
    · exact hd.lt i hi
  · rcases hi with hi | hi
    · exact .inl hi
    · exact (s.fresh i hi).elim (fun h => .inl (h4 i h)) .inr
/-- An act on the vault. -/
theorem vault (h : PR w bd bv F D A G) : ∃ Fv, RVF w bv Fv A G ∧ (∀ i, Fv i → F i) ∧ ∀ w' Fv' A' G', RVF w' bv Fv' A' G' → Step Fv Fv' w w' → ∃ F', PR w' bd bv F' D A' G' ∧ Step F F' w w' := by
  obtain ⟨Fd, Fv, h1, h2, h3, h4, h5, h6⟩ := h
  refine ⟨Fv, h2, h5, fun w' Fv' A' G' hv s => ⟨fun i => F i ∨ Fv' i, ⟨Fd, Fv', h1.keep s.keeps (fun i hd hv => h3 i hd hv), hv, fun i hd hv' => s.apart (fun i hv hd => h3 i hd hv) h1.lt i hv' hd, fun i hi => .inl (h4 i hi), fun i hi => .inr hi, fun i hi => ?_⟩, ⟨s.keeps.mono (fun i _ hi => h5 i hi), fun i hi => ?_⟩⟩⟩
  · rcases hi with hi | hi
    · exact Nat.lt_of_lt_of_le (h6 i hi) s.keeps.size
    · exact hv.lt i hi
  · rcases hi with hi | hi
    · exact .inl hi
    · exact (s.fresh i hi).elim (fun h => .inl (h5 i h)) .inr
end PR

theorem read_len (D : DS) (hk : D.Ok) (blk : Int) : (D.read blk).1.length ≤ 140737488351232 := by
  unfold DS.read
  split
  · split
    · simp
    · rename_i hr _
      unfold rightD at hr
      simp at hr
      have hj : blk.toNat < D.K.length := by omega
      have := lastW_len D.W (fun x hx => (hk.ww x hx).1) blk.toNat (D.K.getD blk.toNat []) (hk.kw _ (by simp [hj]))
      show (D.at_ blk.toNat).length ≤ _
      unfold DS.at_
      omega
  · simp
theorem handleA_lt (b : List UInt8) : (handleA b).1 < 18446744073709551616 := by
  unfold handleA
  split
  · rename_i h
    exact hOf_lt _ (by omega)
  · decide

set_option maxHeartbeats 2000000 in
theorem rpread_any (bd bv : Nat) (F : Nat → Prop) (D : DS) (A : List AE) (G : List K3) (blk : Int) (p : PG) (w : World) (h : PR w bd bv F D A G) (hb : (Lit.int .i64 blk).wf = true) (hG : G.length ≤ 1099511627776) (hA : A.length ≤ 1099511627776) :
    Calls Tryd.prog 38 #[.pointer (some ⟨bd, 0, none⟩), .pointer (some ⟨bv, 0, none⟩), .int .i64 blk, .agg (pgCells p).toArray] w fun e w' =>
      e = .returned (.tuple #[.string ⟨(preadA D A G blk p).1.toArray⟩, .int .i64 (preadA D A G blk p).2]) ∧ Keeps No w w' := by
  obtain ⟨Fd, Fv, h1, h2, h3, h4, h5, h6⟩ := h
  have hkA : Keeps No w (w.alloc (.cells (pgCells p).toArray 25)) := (Keeps.refl No w).alloc _
  have hbA := heap_alloc_new w (.cells (pgCells p).toArray 25)
  have hrd := r_read bd Fd D blk _ (h1.kept hkA)
  have hR16 := read_len D h1.ok blk
  obtain ⟨R, hR⟩ : ∃ R, R = D.read blk := ⟨_, rfl⟩
  obtain ⟨P, hP⟩ : ∃ P, P = preadA D A G blk p := ⟨_, rfl⟩
  rw [← hP]
  unfold preadA at hP
  rw [← hR] at hrd hP hR16
  have HP := Lib.hid hP
  have hbs := fun wx => rbeside_any p blk wx hb
  have h2A := h2.kept hkA
  clear hP hR hb
  unfold pgCells at hkA hbA hrd hbs h2A ⊢
  go_enter Tryd.func38, Tryd.ntmps38
  go_wp2_with fail
  generalize (w.alloc (.cells #[.int .i64 p.1.1.1, .int .i64 p.1.2.1.1, .int .i64 p.1.2.2.1, .int .i64 p.2.1.1, .int .i64 p.2.2.1] 25)) = w0 at hkA hbA hrd h2A ⊢
  refine hrd.mono ?_
  rintro e w1 ⟨rfl, rfl⟩
  by_cases he : R.2 = 0
  case neg =>
    have q1 : (R.2 == 0) = false := by rw [beq_eq_false_iff_ne]; exact he
    have q2 : (R.2 != 0) = true := by rw [bne, q1]; rfl
    have Hf := Lib.hid (show P = ([], R.2) from by rw [HP.out, if_neg he])
    clear he
    go_wp2_with fail
    go_ret2
    exact ⟨by rw [Hf.out]; rfl, hkA⟩
  have q1 : (R.2 == 0) = true := by rw [beq_iff_eq]; exact he
  have q2 : (R.2 != 0) = false := by rw [bne, q1]; rfl
  have HP2 := Lib.hid (show P = if (handleA R.1).2 = true then openA A G p.1 (besS p blk) (handleA R.1).1 else ([], 51) from by rw [HP.out, if_pos he])
  clear he HP
  have hh := fun wx => rhandle_any R.1 wx hR16
  have hhl := handleA_lt R.1
  go_wp2_with fail
  refine (hh _).mono ?_
  rintro e w2 ⟨rfl, rfl⟩
  clear hh hrd
  generalize handleA R.1 = H at HP2 hhl ⊢
  obtain ⟨hv, ok⟩ := H
  simp only at hhl ⊢
  cases ok
  · have Hf := Lib.hid (show P = ([], 51) from by rw [HP2.out]; simp)
    go_wp2_with fail
    go_ret2
    exact ⟨by rw [Hf.out]; rfl, hkA⟩
  have Hf := Lib.hid (show P = openA A G p.1 (besS p blk) hv from by rw [HP2.out]; simp)
  clear HP2
  go_wp2_with fail
  refine wp_region_held_drew (S := fun wx => Keeps No w0 wx ∧ wx.cell? ⟨w.heap.size, 0, none⟩ = some (.int .i64 p.1.1.1) ∧ wx.cell? ⟨w.heap.size, 1, none⟩ = some (.int .i64 p.1.2.1.1) ∧ wx.cell? ⟨w.heap.size, 2, none⟩ = some (.int .i64 p.1.2.2.1) ∧ wx.cell? ⟨w.heap.size, 3, none⟩ = some (.int .i64 p.2.1.1) ∧ wx.cell? ⟨w.heap.size, 4, none⟩ = some (.int .i64 p.2.2.1)) (by kernel_rfl) (⟨(Keeps.refl _ _).drew, pg_cells (w := w0.drew) (p := p) hbA⟩) (fun hS => ?_)
  refine tk (i := 0) (oi := ⟨some 30, _, _, _, _, _⟩) (v := ?_) rfl (by kernel_rfl) (fun _ _ _ h => h) (by assumption) (by rfl) (fun w hSw => ?_) ?_; rotate_left; (focus (first | (go_simp; done) | (go_simp; with_reducible rfl))); simp only [Act.put, List.setIfInBounds_toArray, List.set_cons_zero, List.set_cons_succ]
  refine tk (i := 1) (oi := ⟨some 31, _, _, _, _, _⟩) (v := ?_) rfl (by kernel_rfl) (fun _ _ _ h => h) (by assumption) (by rfl) (fun w hSw => ?_) ?_; rotate_left; (focus (first | (go_simp; done) | (go_simp; with_reducible rfl))); simp only [Act.put, List.setIfInBounds_toArray, List.set_cons_zero, List.set_cons_succ]
  refine tk (i := 2) (oi := ⟨some 32, _, _, _, _, _⟩) (v := ?_) rfl (by kernel_rfl) (fun _ _ _ h => h) (by assumption) (by rfl) (fun w hSw => ?_) ?_; rotate_left; (focus (first | (go_simp; done) | (go_simp; with_reducible rfl))); simp only [Act.put, List.setIfInBounds_toArray, List.set_cons_zero, List.set_cons_succ]
  refine tk (i := 3) (oi := ⟨some 33, _, _, _, _, _⟩) (v := ?_) rfl (by kernel_rfl) (fun _ _ _ h => h) (by assumption) (by rfl) (fun w hSw => ?_) ?_; rotate_left; (focus (first | (go_simp; done) | (go_simp; with_reducible rfl))); simp only [Act.put, List.setIfInBounds_toArray, List.set_cons_zero, List.set_cons_succ]
  refine tk (i := 4) (oi := ⟨some 34, _, _, _, _, _⟩) (v := ?_) rfl (by kernel_rfl) (fun _ _ _ h => h) (by assumption) (by rfl) (fun w hSw => ?_) ?_; rotate_left; (focus (first | (go_simp; done) | (go_simp; with_reducible rfl))); simp only [Act.put, List.setIfInBounds_toArray, List.set_cons_zero, List.set_cons_succ]
  refine tk (i := 6) (oi := ⟨some 36, _, _, _, _, _⟩) (v := ?_) rfl (by kernel_rfl) (fun _ _ _ h => h) (by assumption) (by rfl) (fun w hSw => ?_) ?_; rotate_left; (focus (first | (go_simp; done) | (go_simp; with_reducible rfl))); simp only [Act.put, List.setIfInBounds_toArray, List.set_cons_zero, List.set_cons_succ]
  refine alone (i := 5) (oi := ⟨some 35, _, _, _, _, _⟩) rfl (by kernel_rfl) (by rfl) (fun K hK => ?_); go_simp
  refine (hbs _).mono ?_
  rintro e w3 ⟨rfl, hk3⟩
  have hk23 := hS.1.transNo hk3
  go_simp
  refine hK.out (fun wx => Keeps No w0 wx ∧ wx.cell? ⟨w.heap.size, 0, none⟩ = some (.int .i64 p.1.1.1) ∧ wx.cell? ⟨w.heap.size, 1, none⟩ = some (.int .i64 p.1.2.1.1) ∧ wx.cell? ⟨w.heap.size, 2, none⟩ = some (.int .i64 p.1.2.2.1) ∧ wx.cell? ⟨w.heap.size, 3, none⟩ = some (.int .i64 p.2.1.1) ∧ wx.cell? ⟨w.heap.size, 4, none⟩ = some (.int .i64 p.2.2.1)) _ _ (fun _ h => h) (⟨hk23, pg_cells (p := p) (hk23.blk hbA (not_No _))⟩) ?_
  clear hK K hS
  intro hS
  refine alone (i := 7) (oi := ⟨some 37, _, _, _, _, _⟩) rfl (by kernel_rfl) (by rfl) (fun K hK => ?_); go_simp
  refine (rf_open bv Fv A G p.1 (besS p blk) hv _ (h2A.kept hS.1) hhl hG hA).mono ?_
  rintro e w4 ⟨rfl, hk4⟩
  have hk24 := hS.1.transNo hk4
  go_simp
  refine hK.out (fun wx => Keeps No w0 wx ∧ wx.cell? ⟨w.heap.size, 0, none⟩ = some (.int .i64 p.1.1.1) ∧ wx.cell? ⟨w.heap.size, 1, none⟩ = some (.int .i64 p.1.2.1.1) ∧ wx.cell? ⟨w.heap.size, 2, none⟩ = some (.int .i64 p.1.2.2.1) ∧ wx.cell? ⟨w.heap.size, 3, none⟩ = some (.int .i64 p.2.1.1) ∧ wx.cell? ⟨w.heap.size, 4, none⟩ = some (.int .i64 p.2.2.1)) _ _ (fun _ h => h) (⟨hk24, pg_cells (p := p) (hk24.blk hbA (not_No _))⟩) ?_
  clear hK K hS
  intro hS
  refine tk (i := 8) (oi := ⟨some 38, _, _, _, _, _⟩) (v := ?_) rfl (by kernel_rfl) (fun _ _ _ h => h) (by assumption) (by rfl) (fun w hSw => ?_) ?_; rotate_left; (focus (first | (go_simp; done) | (go_simp; with_reducible rfl))); simp only [Act.put, List.setIfInBounds_toArray, List.set_cons_zero, List.set_cons_succ]
  refine tk (i := 9) (oi := ⟨some 39, _, _, _, _, _⟩) (v := ?_) rfl (by kernel_rfl) (fun _ _ _ h => h) (by assumption) (by rfl) (fun w hSw => ?_) ?_; rotate_left; (focus (first | (go_simp; done) | (go_simp; with_reducible rfl))); simp only [Act.put, List.setIfInBounds_toArray, List.set_cons_zero, List.set_cons_succ]
  refine tk (i := 10) (oi := ⟨some 8, _, _, _, _, _⟩) (v := ?_) rfl (by kernel_rfl) (fun _ _ _ h => h) (by assumption) (by rfl) (fun w hSw => ?_) ?_; rotate_left; (focus (first | (go_simp; done) | (go_simp; with_reducible rfl))); simp only [Act.put, List.setIfInBounds_toArray, List.set_cons_zero, List.set_cons_succ]
  refine tk (i := 11) (oi := ⟨some 9, _, _, _, _, _⟩) (v := ?_) rfl (by kernel_rfl) (fun _ _ _ h => h) (by assumption) (by rfl) (fun w hSw => ?_) ?_; rotate_left; (focus (first | (go_simp; done) | (go_simp; with_reducible rfl))); simp only [Act.put, List.setIfInBounds_toArray, List.set_cons_zero, List.set_cons_succ]
  refine wpAnyH_done (by kernel_rfl) ?_ _
  go_wp2_with fail
  go_ret2
  exact ⟨by rw [Hf.out]; rfl, hkA.transNo hS.1⟩

theorem rblocks (w : World) (bd : Nat) (F : Nat → Prop) (D : DS) (h : Rv w bd F D) : ∃ vk vl, w.heap[bd]? = some (.cells #[vk, vl, .int .i64 (limI D.lim)] 123 (0, 0)) ∧ ∃ a c, vk = .slice a D.K.length c := by
  obtain ⟨vk, vl, h1, h2, _⟩ := h
  obtain ⟨a, c, rfl, _⟩ := Sl.ofOwn h2
  exact ⟨_, vl, h1, a, c, rfl⟩
theorem sealA_lt (A : List AE) (G : List K3) (k : K3) (bs : ByteArray) (p : List UInt8) (hA : A.length ≤ 1099511627776) : (sealA A G k bs p).2.1 < 18446744073709551616 := by
  unfold sealA
  split
  · show 0 < _; omega
  · split
    · show 0 < _; omega
    · show A.length + 1 < _; omega

def PRPost (bd bv : Nat) (F : Nat → Prop) (R : DS × List AE × Int) (G : List K3) (w : World) (e : Ending) (w' : World) : Prop :=
  e = .returned (.int .i64 R.2.2) ∧ ∃ F', PR w' bd bv F' R.1 R.2.1 G ∧ Step F F' w w'

set_option maxHeartbeats 2000000 in
theorem rpwrite_any (bd bv : Nat) (F : Nat → Prop) (D : DS) (A : List AE) (G : List K3) (blk : Int) (p : PG) (plain : List UInt8) (w : World) (h : PR w bd bv F D A G) (hb : (Lit.int .i64 blk).wf = true) (hG : G.length ≤ 1099511627776) (hA : A.length ≤ 1099511627776) (hW : D.W.length ≤ 1099511627776)
    (hn : plain.length ≤ 140737488351232) :
    Calls Tryd.prog 30 #[.pointer (some ⟨bd, 0, none⟩), .pointer (some ⟨bv, 0, none⟩), .int .i64 blk, .agg (pgCells p).toArray, .string ⟨plain.toArray⟩] w (PRPost bd bv F (pwriteA D A G blk p plain) G w) := by
  have hkA : Keeps No w (w.alloc (.cells (pgCells p).toArray 25)) := (Keeps.refl No w).alloc _
  have hbA := heap_alloc_new w (.cells (pgCells p).toArray 25)
  obtain ⟨P, hP⟩ : ∃ P, P = pwriteA D A G blk p plain := ⟨_, rfl⟩
  rw [← hP]
  unfold pwriteA at hP
  have HP := Lib.hid hP
  have hbs := fun wx => rbeside_any p blk wx hb
  have hPA := h.kept hkA
  have hlt := h.lt
  clear hP hb
  unfold pgCells at hkA hbA hbs hPA ⊢
  go_enter Tryd.func30, Tryd.ntmps30
  by_cases hneg : blk < 0
  · have Hf := Lib.hid (show P = (D, A, 2) from by rw [HP.out, if_pos (.inl hneg)])
    go_wp2_with fail
    go_ret
    exact ⟨by rw [Hf.out]; rfl, F, by rw [Hf.out]; exact hPA, Step.ofNo hkA⟩
  have n1 : decide (blk < 0) = false := by simp; omega
  have hblk := (show ∃ Fd, Rv w bd Fd D ∧ bd < w.heap.size from by obtain ⟨Fd, hd, hs, _⟩ := h.dev; exact ⟨Fd, hd, by obtain ⟨_, _, h1, _⟩ := hd; exact (Array.getElem?_eq_some_iff.1 h1).1⟩)
  obtain ⟨Fd0, hd0, hbl⟩ := hblk
  obtain ⟨vk, vl, hbk, ak, ck, rfl⟩ := rblocks _ bd Fd0 D hd0
  have hc0 : w.cell? ⟨bd, 0, none⟩ = some (.slice ak D.K.length ck) := cell_of_row w bd 0 _ _ (0, 0) hbk
  have hc1 := cell_of_row _ bd 0 _ _ (0, 0) (hkA.blk hbk (not_No _))
  clear hd0
  by_cases hbig : (D.K.length : Int) ≤ blk
  · have Hf := Lib.hid (show P = (D, A, 2) from by rw [HP.out, if_pos (.inr hbig)])
    have n2 : decide ((D.K.length : Int) ≤ blk) = true := decide_eq_true hbig
    go_wp2_with fail
    go_ret
    exact ⟨by rw [Hf.out]; rfl, F, by rw [Hf.out]; exact hPA, Step.ofNo hkA⟩
  have n2 : decide ((D.K.length : Int) ≤ blk) = false := decide_eq_false hbig
  have hP2 : P = if (sealA A G p.1 (besS p blk) plain).2.2 = 0 then ((D.write blk (bytes8 (sealA A G p.1 (besS p blk) plain).2.1)).1, (sealA A G p.1 (besS p blk) plain).1, (D.write blk (bytes8 (sealA A G p.1 (besS p blk) plain).2.1)).2)
      else (D, (sealA A G p.1 (besS p blk) plain).1, (sealA A G p.1 (besS p blk) plain).2.2) := by rw [HP.out, if_neg (fun h => h.elim hneg hbig)]
  have hSl := sealA_lt A G p.1 (besS p blk) plain hA
  obtain ⟨S, hS⟩ : ∃ S, S = sealA A G p.1 (besS p blk) plain := ⟨_, rfl⟩
  rw [← hS] at hP2 hSl
  have HP2 := Lib.hid hP2
  have HS := Lib.hid hS
  clear hP2 hS HP
  go_wp2_with fail
  clear hbk
  obtain ⟨w0, hw0⟩ : ∃ w0, w0 = (w.alloc (.cells #[.int .i64 p.1.1.1, .int .i64 p.1.2.1.1, .int .i64 p.1.2.2.1, .int .i64 p.2.1.1, .int .i64 p.2.2.1] 25)) := ⟨_, rfl⟩
  have hz0 : w.heap.size < w0.heap.size := by rw [hw0]; simp
  rw [← hw0] at hkA hbA hPA ⊢
  clear hw0
  refine wp_region_held_drew (S := fun wx => wx.cell? ⟨w.heap.size, 0, none⟩ = some (.int .i64 p.1.1.1) ∧ wx.cell? ⟨w.heap.size, 1, none⟩ = some (.int .i64 p.1.2.1.1) ∧ wx.cell? ⟨w.heap.size, 2, none⟩ = some (.int .i64 p.1.2.2.1) ∧ wx.cell? ⟨w.heap.size, 3, none⟩ = some (.int .i64 p.2.1.1) ∧ wx.cell? ⟨w.heap.size, 4, none⟩ = some (.int .i64 p.2.2.1)) (by kernel_rfl) (pg_cells (w := w0.drew) (p := p) hbA) (fun hS => ?_)
  refine tk (i := 0) (oi := ⟨some 25, _, _, _, _, _⟩) (v := ?_) rfl (by kernel_rfl) (fun _ _ _ h => h) (by assumption) (by rfl) (fun w hSw => ?_) ?_; rotate_left; (focus (first | (go_simp; done) | (go_simp; with_reducible rfl))); simp only [Act.put, List.setIfInBounds_toArray, List.set_cons_zero, List.set_cons_succ]
  refine tk (i := 1) (oi := ⟨some 26, _, _, _, _, _⟩) (v := ?_) rfl (by kernel_rfl) (fun _ _ _ h => h) (by assumption) (by rfl) (fun w hSw => ?_) ?_; rotate_left; (focus (first | (go_simp; done) | (go_simp; with_reducible rfl))); simp only [Act.put, List.setIfInBounds_toArray, List.set_cons_zero, List.set_cons_succ]
  refine tk (i := 2) (oi := ⟨some 27, _, _, _, _, _⟩) (v := ?_) rfl (by kernel_rfl) (fun _ _ _ h => h) (by assumption) (by rfl) (fun w hSw => ?_) ?_; rotate_left; (focus (first | (go_simp; done) | (go_simp; with_reducible rfl))); simp only [Act.put, List.setIfInBounds_toArray, List.set_cons_zero, List.set_cons_succ]
  refine tk (i := 3) (oi := ⟨some 28, _, _, _, _, _⟩) (v := ?_) rfl (by kernel_rfl) (fun _ _ _ h => h) (by assumption) (by rfl) (fun w hSw => ?_) ?_; rotate_left; (focus (first | (go_simp; done) | (go_simp; with_reducible rfl))); simp only [Act.put, List.setIfInBounds_toArray, List.set_cons_zero, List.set_cons_succ]
  refine tk (i := 4) (oi := ⟨some 29, _, _, _, _, _⟩) (v := ?_) rfl (by kernel_rfl) (fun _ _ _ h => h) (by assumption) (by rfl) (fun w hSw => ?_) ?_; rotate_left; (focus (first | (go_simp; done) | (go_simp; with_reducible rfl))); simp only [Act.put, List.setIfInBounds_toArray, List.set_cons_zero, List.set_cons_succ]
  refine tk (i := 6) (oi := ⟨some 31, _, _, _, _, _⟩) (v := ?_) rfl (by kernel_rfl) (fun _ _ _ h => h) (by assumption) (by rfl) (fun w hSw => ?_) ?_; rotate_left; (focus (first | (go_simp; done) | (go_simp; with_reducible rfl))); simp only [Act.put, List.setIfInBounds_toArray, List.set_cons_zero, List.set_cons_succ]
  refine alone (i := 5) (oi := ⟨some 30, _, _, _, _, _⟩) rfl (by kernel_rfl) (by rfl) (fun K hK => ?_); go_simp
  refine (hbs _).mono ?_
  rintro e w3 ⟨rfl, hk3⟩
  have hk03 : Keeps No w0 w3 := hk3.ofDrew
  have hb3 := hk03.blk hbA (not_No _)
  have hP3 := hPA.kept hk03
  obtain ⟨Fv, hv3, hsub, back⟩ := hP3.vault
  go_simp
  refine hK.out (fun wx => wx.cell? ⟨w.heap.size, 0, none⟩ = some (.int .i64 p.1.1.1) ∧ wx.cell? ⟨w.heap.size, 1, none⟩ = some (.int .i64 p.1.2.1.1) ∧ wx.cell? ⟨w.heap.size, 2, none⟩ = some (.int .i64 p.1.2.2.1) ∧ wx.cell? ⟨w.heap.size, 3, none⟩ = some (.int .i64 p.2.1.1) ∧ wx.cell? ⟨w.heap.size, 4, none⟩ = some (.int .i64 p.2.2.1)) _ _ (fun _ h => h) (pg_cells (p := p) hb3) ?_
  clear hK K hS
  intro hS
  refine alone (i := 7) (oi := ⟨some 32, _, _, _, _, _⟩) rfl (by kernel_rfl) (by rfl) (fun K hK => ?_); go_simp
  refine (rf_seal bv Fv A G p.1 (besS p blk) plain _ hv3 hn hG hA).mono ?_
  rintro e w4 ⟨rfl, Fv4, hv4, hs4⟩
  obtain ⟨F4, hP4, hS4⟩ := back _ _ _ _ hv4 hs4
  have hb4 := hS4.keeps.blk hb3 (fun h => by have := hlt _ h; omega)
  rw [← HS.out] at hP4 hv4 ⊢
  go_simp
  refine hK.out (fun wx => wx.cell? ⟨w.heap.size, 0, none⟩ = some (.int .i64 p.1.1.1) ∧ wx.cell? ⟨w.heap.size, 1, none⟩ = some (.int .i64 p.1.2.1.1) ∧ wx.cell? ⟨w.heap.size, 2, none⟩ = some (.int .i64 p.1.2.2.1) ∧ wx.cell? ⟨w.heap.size, 3, none⟩ = some (.int .i64 p.2.1.1) ∧ wx.cell? ⟨w.heap.size, 4, none⟩ = some (.int .i64 p.2.2.1)) _ _ (fun _ h => h) (pg_cells (p := p) hb4) ?_
  clear hK K hS
  intro hS
  refine tk (i := 8) (oi := ⟨some 24, _, _, _, _, _⟩) (v := ?_) rfl (by kernel_rfl) (fun _ _ _ h => h) (by assumption) (by rfl) (fun w hSw => ?_) ?_; rotate_left; (focus (first | (go_simp; done) | (go_simp; with_reducible rfl))); simp only [Act.put, List.setIfInBounds_toArray, List.set_cons_zero, List.set_cons_succ]
  refine tk (i := 9) (oi := ⟨some 33, _, _, _, _, _⟩) (v := ?_) rfl (by kernel_rfl) (fun _ _ _ h => h) (by assumption) (by rfl) (fun w hSw => ?_) ?_; rotate_left; (focus (first | (go_simp; done) | (go_simp; with_reducible rfl))); simp only [Act.put, List.setIfInBounds_toArray, List.set_cons_zero, List.set_cons_succ]
  refine tk (i := 10) (oi := ⟨some 34, _, _, _, _, _⟩) (v := ?_) rfl (by kernel_rfl) (fun _ _ _ h => h) (by assumption) (by rfl) (fun w hSw => ?_) ?_; rotate_left; (focus (first | (go_simp; done) | (go_simp; with_reducible rfl))); simp only [Act.put, List.setIfInBounds_toArray, List.set_cons_zero, List.set_cons_succ]
  refine tk (i := 11) (oi := ⟨some 11, _, _, _, _, _⟩) (v := ?_) rfl (by kernel_rfl) (fun _ _ _ h => h) (by assumption) (by rfl) (fun w hSw => ?_) ?_; rotate_left; (focus (first | (go_simp; done) | (go_simp; with_reducible rfl))); simp only [Act.put, List.setIfInBounds_toArray, List.set_cons_zero, List.set_cons_succ]
  refine tk (i := 12) (oi := ⟨some 12, _, _, _, _, _⟩) (v := ?_) rfl (by kernel_rfl) (fun _ _ _ h => h) (by assumption) (by rfl) (fun w hSw => ?_) ?_; rotate_left; (focus (first | (go_simp; done) | (go_simp; with_reducible rfl))); simp only [Act.put, List.setIfInBounds_toArray, List.set_cons_zero, List.set_cons_succ]
  refine wpAnyH_done (by kernel_rfl) ?_ _
  have hS04 : Step F F4 w w4 := Step.noTrans (hkA.transNo hk03) hS4
  clear hv3 hv4 hs4 back hS4 hP3 hPA hbs hS hb3 hbA
  by_cases he : S.2.2 = 0
  case neg =>
    have q1 : (S.2.2 == 0) = false := by rw [beq_eq_false_iff_ne]; exact he
    have q2 : (S.2.2 != 0) = true := by rw [bne, q1]; rfl
    have Hf := Lib.hid (show P = (D, S.1, S.2.2) from by rw [HP2.out, if_neg he])
    clear he
    go_wp2_with fail
    go_ret
    exact ⟨by rw [Hf.out]; rfl, F4, by rw [Hf.out]; exact hP4, hS04⟩
  have q1 : (S.2.2 == 0) = true := by rw [beq_iff_eq]; exact he
  have q2 : (S.2.2 != 0) = false := by rw [bne, q1]; rfl
  have Hf := Lib.hid (show P = ((D.write blk (bytes8 S.2.1)).1, S.1, (D.write blk (bytes8 S.2.1)).2) from by rw [HP2.out, if_pos he])
  clear he HP2
  generalize S.2.1 = h64 at hSl Hf ⊢
  have hby := fun wx => rbytes_any h64 wx hSl
  go_wp2_with fail
  refine (hby _).mono ?_
  rintro e w5 ⟨rfl, hk5⟩
  have hP5 := hP4.kept hk5
  obtain ⟨Fd5, hd5, hsub5, back5⟩ := hP5.dev
  have hwr := r_write bd Fd5 D blk (bytes8 h64) w5 hd5 (by rw [bytes8_len]; omega) hW
  go_wp2_with fail
  refine hwr.mono ?_
  rintro e w6 ⟨rfl, Fd6, hd6, hs6⟩
  obtain ⟨F6, hP6, hS6⟩ := back5 _ _ _ hd6 hs6
  go_wp2_with fail
  go_ret
  exact ⟨by rw [Hf.out]; rfl, F6, by rw [Hf.out]; exact hP6, hS04.trans (Step.noTrans hk5 hS6)⟩
end Go.Proofs.YthimnkmoeonheaaDoor
