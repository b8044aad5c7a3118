/- Pages and the document's pages, alike, apart from each other; a key that is gone. -/
import Derived.Test.YthimnkmoeonheaaDoorLawSevenF
namespace Go.Proofs.YthimnkmoeonheaaDoor
open Go.RowKit
set_option linter.unusedSimpArgs false
set_option linter.unusedVariables false
set_option maxRecDepth 100000

theorem key_info7 : (Tryd.prog.info? 23).map (fun i => (i.zero, i.size, i.bytes)) = some (some (.agg #[.int .i64 0, .int .i64 0, .int .i64 0]), 3, 24) := by kernel_rfl
theorem keyOne7 (k : K3) : ∀ u ∈ [keyCells k].flatten, u.oneCell' = true := by
  intro u hu; simp [keyCells] at hu; rcases hu with rfl | rfl | rfl <;> rfl

theorem umod (x : Int) (m : Int) (hm : 0 < m) : ∃ t : Nat, x % 18446744073709551616 % m = (t : Int) ∧ (IntKind.u64.wrap x).tmod m = (t : Int) ∧ (t : Int) < m := by
  have h0 : m ≠ 0 := by omega
  have h1 := Int.emod_nonneg (x % 18446744073709551616) h0
  have h2 := Int.emod_lt_of_pos (x % 18446744073709551616) hm
  have h3 : 0 ≤ x % 18446744073709551616 := by omega
  refine ⟨(x % 18446744073709551616 % m).toNat, by omega, ?_, by omega⟩
  rw [IntKind.wrap_u64, Int.tmod_eq_emod_of_nonneg h3]
  omega

def Twn (B bd bv br bw : Nat) (F H : Nat → Prop) (D : DS) (A : List AE) (G : List K3) (w : World) : Prop :=
  PV w bd bv F D A G ∧ PR w br bw H D A G ∧ (∀ i, F i → ¬ H i) ∧ (∀ i, F i → B ≤ i) ∧ (∀ i, H i → B ≤ i)
namespace Twn
variable {B bd bv br bw : Nat} {F H F' H' S : Nat → Prop} {D D' : DS} {A A' : List AE} {G G' : List K3} {w w' w1 w2 : World}
theorem kept (h : Twn B bd bv br bw F H D A G w) (k : Keeps No w w') : Twn B bd bv br bw F H D A G w' := ⟨h.1.kept k, h.2.1.kept k, h.2.2⟩
theorem keep (h : Twn B bd bv br bw F H D A G w) (k : Keeps S w w') (h1 : ∀ i, F i → ¬ S i) (h2 : ∀ i, H i → ¬ S i) : Twn B bd bv br bw F H D A G w' := ⟨h.1.keep k h1, h.2.1.keep k h2, h.2.2⟩
theorem step (h : Twn B bd bv br bw F H D A G w) (hB : B ≤ w.heap.size) (hd : PV w1 bd bv F' D' A' G') (s1 : Step F F' w w1) (hr : PR w2 br bw H' D' A' G') (s2 : Step H H' w1 w2) : Twn B bd bv br bw F' H' D' A' G' w2 := by
  obtain ⟨h1, h2, h3, h4, h5⟩ := h
  have hz := s1.keeps.size
  have a1 := s1.apart h3 h2.lt
  have a2 : ∀ i, H' i → ¬ F' i := s2.apart (fun i hr hd => a1 i hd hr) hd.lt
  exact ⟨hd.keep s2.keeps (fun i hi hr => a1 i hi hr), hr, fun i hd hr => a2 i hr hd, fun i hi => (s1.fresh i hi).elim (h4 i) (fun h => by omega), fun i hi => (s2.fresh i hi).elim (h5 i) (fun h => by omega)⟩
/-- The document's pages after an act on the others. -/
theorem ref (h : Twn B bd bv br bw F H D A G w) (s1 : Keeps F w w1) : PR w1 br bw H D A G := h.2.1.keep s1 (fun i hi hf => h.2.2.1 i hf hi)
end Twn
theorem Step.notIn7 {F F' : Nat → Prop} {w w' : World} (s : Step F F' w w') {g : Nat} (hg : ¬ F g) (hl : g < w.heap.size) : ¬ F' g := fun h => (s.fresh g h).elim hg (fun h => by omega)

/-- A new vault of the document's. -/
theorem RVF.new (w : World) (b : Nat) (h : w.heap[b]? = some (.cells #[.slice none 0 0, .slice none 0 0] 70 (0, 0))) : RVF w b (fun i => i = b) [] [] :=
  ⟨.slice none 0 0, .slice none 0 0, ⟨h, World.ownsRow_nil _ _ _ _, World.ownsRow_nil _ _ _ _, fun h => (by cases h), fun h => (by cases h), fun i h => (by cases h)⟩,
    fun i hi => hi.elim id (fun h => h.elim (fun h => by cases h) (fun h => by cases h)), fun i hi => by rw [hi]; exact (Array.getElem?_eq_some_iff.1 h).1⟩
theorem prnew (n : Nat) (w : World) (bd bv : Nat) (Fd Fv : Nat → Prop) (D : DS) (A : List AE) (G : List K3) (w1 w2 : World) (hd : Rv w1 bd Fd D) (hF : ∀ i, Fd i → w.heap.size ≤ i) (hv : RVF w2 bv Fv A G) (hF2 : ∀ i, Fv i → w1.heap.size ≤ i) (hk : Keeps No w w1) (hk2 : Keeps No w1 w2) :
    ∃ F, PR w2 bd bv F D A G ∧ ∀ i, F i → w.heap.size ≤ i :=
  ⟨fun i => Fd i ∨ Fv i, ⟨Fd, Fv, hd.kept hk2, hv, fun i h1 h2 => by have := hd.lt i h1; have := hF2 i h2; omega, fun i h => .inl h, fun i h => .inr h, fun i h => h.elim (fun h => Nat.lt_of_lt_of_le (hd.lt i h) hk2.size) (hv.lt i)⟩, fun i h => h.elim (hF i) (fun h => Nat.le_trans hk.size (hF2 i h))⟩

/-- 'v.Gone = append(v.Gone, k)': the row is appended to, then stored. -/
theorem RV.goneStep {w w9 : World} {b : Nat} {vl vg v2 : Value} {A : List AE} {G : List K3} {k : K3} (h : RV w b vl vg A G) (hX : Keeps (fun i => vg.ownBlock = some i) w w9)
    (hown : w9.ownsRow 0 23 3 v2 (G.length + 1) ((G ++ [k]).map keyCells).flatten) (hat : ∀ g, v2.ownBlock = some g → vg.ownBlock = some g ∨ w.heap.size ≤ g) :
    RV (w9.setCell ⟨b, 1, none⟩ v2) b vl v2 A (G ++ [k]) ∧ Keeps (RO b vl vg) w (w9.setCell ⟨b, 1, none⟩ v2) ∧ ∀ i, RO b vl v2 i → RO b vl vg i ∨ w.heap.size ≤ i := by
  have hlt := h.lt
  have hb := hlt b (.inl rfl)
  obtain ⟨r1, r2, r3, r4, r5, r6⟩ := h
  have hb9 := hX.blk r1 r5
  have hkS : Keeps (fun i => i = b ∨ vg.ownBlock = some i) w (w9.setCell ⟨b, 1, none⟩ v2) := (hX.mono (fun i _ h => .inr h)).setCell (p := ⟨b, 1, none⟩) (fun _ => .inl rfl) _
  refine ⟨⟨?_, ?_, ?_, r4, fun h => ?_, fun i hi hg => ?_⟩, hkS.mono (fun i _ h => h.elim .inl (fun h => .inr (.inr h))), fun i hi => ?_⟩
  · rw [heap_setCell_same w9 b 1 _ _ _ hb9]; rfl
  · refine hkS.own r2 (fun i hi h => ?_)
    rcases h with h | h
    · exact r4 (by rw [hi, h])
    · exact r6 i hi h
  · refine (Keeps.set w9 b 1 _).own ?_ (fun i hi h => ?_)
    · rw [List.length_append]; exact hown
    · subst h
      rcases hat i hi with h | h
      · exact r5 h
      · omega
  · rcases hat _ h with h | h
    · exact r5 h
    · omega
  · rcases hat i hg with h | h
    · exact r6 i hi h
    · have := hlt i (.inr (.inl hi)); omega
  · rcases hi with h | h | h
    · exact .inl (.inl h)
    · exact .inl (.inr (.inl h))
    · exact (hat i h).elim (fun h => .inl (.inr (.inr h))) .inr
theorem RVF.goneStep {w w9 : World} {b : Nat} {F : Nat → Prop} {vl vg v2 : Value} {A : List AE} {G : List K3} {k : K3} (h : RV w b vl vg A G) (hF : ∀ i, RO b vl vg i → F i) (hFl : ∀ i, F i → i < w.heap.size) (hX : Keeps (fun i => vg.ownBlock = some i) w w9)
    (hown : w9.ownsRow 0 23 3 v2 (G.length + 1) ((G ++ [k]).map keyCells).flatten) (hat : ∀ g, v2.ownBlock = some g → vg.ownBlock = some g ∨ w.heap.size ≤ g) :
    ∃ F', RVF (w9.setCell ⟨b, 1, none⟩ v2) b F' A (G ++ [k]) ∧ Step F F' w (w9.setCell ⟨b, 1, none⟩ v2) := by
  obtain ⟨h1, h2, h3⟩ := h.goneStep hX hown hat
  refine ⟨fun i => F i ∨ RO b vl v2 i, ⟨vl, v2, h1, fun i hi => .inr hi, fun i hi => hi.elim (fun h => Nat.lt_of_lt_of_le (hFl i h) h2.size) (h1.lt i)⟩, ⟨h2.mono (fun i _ hi => hF i hi), fun i hi => ?_⟩⟩
  rcases hi with hi | hi
  · exact .inl hi
  · exact (h3 i hi).elim (fun h => .inl (hF i h)) .inr
theorem write_len7 (D : DS) (i : Int) (p : List UInt8) : (D.write i p).1.K.length = D.K.length ∧ (D.write i p).1.W.length ≤ D.W.length + 1 := by
  unfold DS.write
  split
  · split <;> simp
  · simp
theorem sync_len7 (D : DS) : D.sync.1.K.length = D.K.length ∧ D.sync.1.W.length ≤ D.W.length := by
  unfold DS.sync
  split <;> simp [keepW_len]
theorem over_len7 (D : DS) (i : Int) (p : List UInt8) : (D.over i p).1.K.length = D.K.length ∧ (D.over i p).1.W.length ≤ D.W.length := by
  unfold DS.over
  split
  · have := List.length_filter_le (fun w : WR => !decide (w.1 = i.toNat)) D.W
    exact ⟨by simp, this⟩
  · simp
theorem crash_len7 (D : DS) (keep : List Bool) : (D.crash keep).K.length = D.K.length ∧ (D.crash keep).W.length ≤ D.W.length := by
  unfold DS.crash
  simp [crashW_len]
theorem sealA_len7 (A : List AE) (G : List K3) (k : K3) (bs : ByteArray) (p : List UInt8) : (sealA A G k bs p).1.length ≤ A.length + 1 := by
  unfold sealA
  split
  · simp
  · split <;> simp
theorem pwriteA_len (D : DS) (A : List AE) (G : List K3) (blk : Int) (p : PG) (b : List UInt8) : (pwriteA D A G blk p b).1.K.length = D.K.length ∧ (pwriteA D A G blk p b).1.W.length ≤ D.W.length + 1 ∧ (pwriteA D A G blk p b).2.1.length ≤ A.length + 1 := by
  have hs := sealA_len7 A G p.1 (besS p blk) b
  unfold pwriteA
  split
  · simp
  · split
    · have := write_len7 D blk (bytes8 (sealA A G p.1 (besS p blk) b).2.1)
      exact ⟨this.1, this.2, hs⟩
    · exact ⟨rfl, Nat.le_succ _, hs⟩
/-! The device's acts on pages that stand apart. -/
section
variable (bd bv : Nat) (F : Nat → Prop) (D : DS) (A : List AE) (G : List K3) (w : World)
theorem pv_over (i : Int) (a : Option Addr) (n c : Nat) (p : List UInt8) (h : PV w bd bv F D A G) (hs : Sl w a n c (p.map byteV)) (hn : n ≤ 140737488351232) (hin : 0 < n → ¬ F (a.getD default).block) :
    Calls Tryd.prog 18 #[.pointer (some ⟨bd, 0, none⟩), .int .i64 i, .slice a n c] w fun e w' => e = .returned (.int .i64 (D.over i p).2) ∧ ∃ F', PV w' bd bv F' (D.over i p).1 A G ∧ Step F F' w w' := by
  obtain ⟨Fd, hd, hsub, back⟩ := h.dev
  refine (d_over bd Fd D i a n c p w hd hs hn (fun h0 hf => hin h0 (hsub _ hf))).mono ?_
  rintro e w1 ⟨rfl, hd1, hk⟩
  exact ⟨rfl, back _ _ _ hd1 ⟨hk, fun _ h => .inl h⟩⟩
theorem pv_read (i : Int) (h : PV w bd bv F D A G) :
    Calls Tryd.prog 17 #[.pointer (some ⟨bd, 0, none⟩), .int .i64 i] w fun e w' =>
      ∃ v, e = .returned (.tuple #[v, .int .i64 (D.read i).2]) ∧ w'.ownsRow w.heap.size 5 1 v (D.read i).1.length ((D.read i).1.map byteV) ∧ Keeps No w w' := by
  obtain ⟨Fd, hd, _⟩ := h.dev
  exact d_read bd Fd D i w hd
theorem pv_sync (h : PV w bd bv F D A G) :
    Calls Tryd.prog 35 #[.pointer (some ⟨bd, 0, none⟩)] w fun e w' => e = .returned (.int .i64 D.sync.2) ∧ ∃ F', PV w' bd bv F' D.sync.1 A G ∧ Step F F' w w' := by
  obtain ⟨Fd, hd, hsub, back⟩ := h.dev
  refine (d_sync bd Fd D w hd).mono ?_
  rintro e w1 ⟨rfl, hd1, hk⟩
  exact ⟨rfl, back _ _ _ hd1 ⟨hk, fun _ h => .inl h⟩⟩
theorem pv_limit (n : Int) (h : PV w bd bv F D A G) (hn : n ≤ 9223372036854775807) :
    Calls Tryd.prog 24 #[.pointer (some ⟨bd, 0, none⟩), .int .i64 n] w fun e w' => e = .returned (.tuple #[]) ∧ ∃ F', PV w' bd bv F' (D.limit n) A G ∧ Step F F' w w' := by
  obtain ⟨Fd, hd, hsub, back⟩ := h.dev
  refine (dlimit_any bd Fd D n w hd hn).mono ?_
  rintro e w1 ⟨rfl, hd1, hk⟩
  exact ⟨rfl, back _ _ _ hd1 ⟨hk, fun _ h => .inl h⟩⟩
theorem pv_crash (a : Option Addr) (n c : Nat) (keep : List Bool) (h : PV w bd bv F D A G) (hs : Sl w a n c (keep.map Value.bool)) (hin : 0 < n → ¬ F (a.getD default).block) :
    Calls Tryd.prog 26 #[.pointer (some ⟨bd, 0, none⟩), .slice a n c] w fun e w' => e = .returned (.tuple #[]) ∧ ∃ F', PV w' bd bv F' (D.crash keep) A G ∧ Step F F' w w' := by
  obtain ⟨Fd, hd, hsub, back⟩ := h.dev
  refine (dcrash_any bd Fd D a n c keep w hd hs (fun h0 hf => hin h0 (hsub _ hf))).mono ?_
  rintro e w1 ⟨rfl, hd1, hk⟩
  exact ⟨rfl, back _ _ _ hd1 ⟨hk, fun _ h => .inl h⟩⟩
theorem pv_destroy (k : K3) (h : PV w bd bv F D A G) (hG : G.length < maxLen) :
    Calls Tryd.prog 33 #[.pointer (some ⟨bv, 0, none⟩), .agg (keyCells k).toArray] w fun e w' => e = .returned (.tuple #[]) ∧ ∃ F', PV w' bd bv F' D A (G ++ [k]) ∧ Step F F' w w' := by
  obtain ⟨Fv, hv, hsub, back⟩ := h.vault
  refine (f_destroy bv Fv A G k w hv hG).mono ?_
  rintro e w1 ⟨rfl, Fv1, hv1, hs1⟩
  exact ⟨rfl, back _ _ _ _ hv1 hs1⟩
theorem pv_sealed (h : PV w bd bv F D A G) :
    Calls Tryd.prog 39 #[.pointer (some ⟨bv, 0, none⟩)] w fun e w' => e = .returned (.int .i64 (A.length : Int)) ∧ w = w' := by
  obtain ⟨Fv, hv, _⟩ := h.vault
  exact f_sealed bv Fv A G w hv
theorem pr_over (i : Int) (p : List UInt8) (h : PR w bd bv F D A G) (hp : p.length ≤ 140737488351232) (hW : D.W.length ≤ 1099511627776) :
    Calls Tryd.prog 31 #[.pointer (some ⟨bd, 0, none⟩), .int .i64 i, .string ⟨p.toArray⟩] w fun e w' => e = .returned (.int .i64 (D.over i p).2) ∧ ∃ F', PR w' bd bv F' (D.over i p).1 A G ∧ Step F F' w w' := by
  obtain ⟨Fd, hd, hsub, back⟩ := h.dev
  refine (r_over bd Fd D i p w hd hp hW).mono ?_
  rintro e w1 ⟨rfl, Fd1, hd1, hs1⟩
  exact ⟨rfl, back _ _ _ hd1 hs1⟩
theorem pr_read (i : Int) (h : PR w bd bv F D A G) :
    Calls Tryd.prog 32 #[.pointer (some ⟨bd, 0, none⟩), .int .i64 i] w fun e w' => e = .returned (.tuple #[.string ⟨(D.read i).1.toArray⟩, .int .i64 (D.read i).2]) ∧ w = w' := by
  obtain ⟨Fd, hd, _⟩ := h.dev
  exact r_read bd Fd D i w hd
theorem pr_sync (h : PR w bd bv F D A G) :
    Calls Tryd.prog 36 #[.pointer (some ⟨bd, 0, none⟩)] w fun e w' => e = .returned (.int .i64 D.sync.2) ∧ ∃ F', PR w' bd bv F' D.sync.1 A G ∧ Step F F' w w' := by
  obtain ⟨Fd, hd, hsub, back⟩ := h.dev
  refine (r_sync bd Fd D w hd).mono ?_
  rintro e w1 ⟨rfl, hd1, hk⟩
  exact ⟨rfl, back _ _ _ hd1 ⟨hk, fun _ h => .inl h⟩⟩
theorem pr_limit (n : Int) (h : PR w bd bv F D A G) (hn : n ≤ 9223372036854775807) :
    Calls Tryd.prog 37 #[.pointer (some ⟨bd, 0, none⟩), .int .i64 n] w fun e w' => e = .returned (.tuple #[]) ∧ ∃ F', PR w' bd bv F' (D.limit n) A G ∧ Step F F' w w' := by
  obtain ⟨Fd, hd, hsub, back⟩ := h.dev
  refine (r_limit bd Fd D n w hd hn).mono ?_
  rintro e w1 ⟨rfl, hd1, hk⟩
  exact ⟨rfl, back _ _ _ hd1 ⟨hk, fun _ h => .inl h⟩⟩
theorem pr_crash (a : Option Addr) (n c : Nat) (keep : List Bool) (h : PR w bd bv F D A G) (hK0 : 0 < D.K.length) (hs : Sl w a n c (keep.map Value.bool)) (hin : 0 < n → ¬ F (a.getD default).block) :
    Calls Tryd.prog 34 #[.pointer (some ⟨bd, 0, none⟩), .slice a n c] w fun e w' => e = .returned (.tuple #[]) ∧ ∃ F', PR w' bd bv F' (D.crash keep) A G ∧ Step F F' w w' := by
  obtain ⟨Fd, hd, hsub, back⟩ := h.dev
  refine (r_crash bd Fd D a n c keep w hd hK0 hs (fun h0 hf => hin h0 (hsub _ hf))).mono ?_
  rintro e w1 ⟨rfl, hd1, hk⟩
  exact ⟨rfl, back _ _ _ hd1 ⟨hk, fun _ h => .inl h⟩⟩
end
end Go.Proofs.YthimnkmoeonheaaDoor
