/- The walk of RootPlays. -/
import Derived.Test.YthimnkmoeonheaaDoorLawEightF
import Derived.Deep.DeepCutAuto
import Derived.Deep.CutRange
import Derived.Deep.CutBlock
namespace Go.Proofs.YthimnkmoeonheaaDoor
open Go.RowKit
set_option linter.unusedSimpArgs false
set_option linter.unusedVariables false
set_option maxRecDepth 100000

abbrev I64R := {n : Int // (Lit.int .i64 n).wf = true}
abbrev OPR := I64R × I64R × I64R × (Option Addr × Nat × Nat × List UInt8) × (Option Addr × Nat × Nat × List Bool)
def oprV (o : OPR) : List Value := [.int .i64 o.1.1] ++ ([.int .i64 o.2.1.1] ++ ([.int .i64 o.2.2.1.1] ++ ([.slice o.2.2.2.1.1 o.2.2.2.1.2.1 o.2.2.2.1.2.2.1] ++ [.slice o.2.2.2.2.1 o.2.2.2.2.2.1 o.2.2.2.2.2.2.1])))
def OprOk (w : World) (o : OPR) : Prop := (Sl w o.2.2.2.1.1 o.2.2.2.1.2.1 o.2.2.2.1.2.2.1 (o.2.2.2.1.2.2.2.map byteV) ∧ o.2.2.2.1.2.1 ≤ 140737488351232) ∧ Sl w o.2.2.2.2.1 o.2.2.2.2.2.1 o.2.2.2.2.2.2.1 (o.2.2.2.2.2.2.2.map Value.bool) ∧ o.2.2.2.2.2.1 ≤ 140737488351232
theorem opr_size : (Tryd.prog.info? 88).map (·.size) = some 5 := by kernel_rfl
theorem cells5r {w : World} {g : Nat} {a b c d e : Value} {t : TypeId} (hg : w.heap[g]? = some (.cells #[a, b, c, d, e] t (0, 0))) :
    w.cell? ⟨g, 0, none⟩ = some a ∧ w.cell? ⟨g, 1, none⟩ = some b ∧ w.cell? ⟨g, 2, none⟩ = some c ∧ w.cell? ⟨g, 3, none⟩ = some d ∧ w.cell? ⟨g, 4, none⟩ = some e :=
  ⟨cell_of_row w g 0 _ _ (0, 0) hg, cell_of_row w g 1 _ _ (0, 0) hg, cell_of_row w g 2 _ _ (0, 0) hg, cell_of_row w g 3 _ _ (0, 0) hg, cell_of_row w g 4 _ _ (0, 0) hg⟩
theorem rput_mark (s : RS) (G : List K3) (plain : List UInt8) (j : Nat) (h1 : s.mark ≤ j) (h2 : s.A.length ≤ j) : (rput s G plain).1.mark ≤ j + 1 := by
  rw [rput_eq]
  unfold rput2
  split
  · split
    · split
      · show s.A.length + 1 ≤ _; omega
      · show s.mark ≤ _; omega
    · show s.mark ≤ _; omega
  · show s.mark ≤ _; omega

/-! The document's acts beside its cell; a seal beside a cell. -/
section
variable (bd bv bc : Nat) (F : Nat → Prop) (s : RS) (G : List K3) (w : World)
theorem rr_limit (n : Int) (h : RRT w bd bv bc F s G) (hn : n ≤ 9223372036854775807) :
    Calls Tryd.prog 37 #[.pointer (some ⟨bd, 0, none⟩), .int .i64 n] w fun e w' => e = .returned (.tuple #[]) ∧ ∃ F', RRT w' bd bv bc F' ⟨s.D.limit n, s.A, s.ver, s.mark⟩ G ∧ Step (FC F bc) (FC F' bc) w w' := by
  refine (pr_limit bd bv F s.D s.A G w n h.1 hn).mono ?_
  rintro e w1 ⟨rfl, F1, hP1, hs1⟩
  exact ⟨rfl, F1, (h.step hP1 hs1).1, (h.step hP1 hs1).2⟩
theorem rr_crash (a : Option Addr) (n c : Nat) (keep : List Bool) (h : RRT w bd bv bc F s G) (hK0 : 0 < s.D.K.length) (hs : Sl w a n c (keep.map Value.bool)) (hin : 0 < n → ¬ FC F bc (a.getD default).block) :
    Calls Tryd.prog 34 #[.pointer (some ⟨bd, 0, none⟩), .slice a n c] w fun e w' => e = .returned (.tuple #[]) ∧ ∃ F', RRT w' bd bv bc F' ⟨s.D.crash keep, s.A, s.ver, s.mark⟩ G ∧ Step (FC F bc) (FC F' bc) w w' := by
  refine (pr_crash bd bv F s.D s.A G w a n c keep h.1 hK0 hs (fun h0 hf => hin h0 (.inl hf))).mono ?_
  rintro e w1 ⟨rfl, F1, hP1, hs1⟩
  exact ⟨rfl, F1, (h.step hP1 hs1).1, (h.step hP1 hs1).2⟩
theorem rr_over (i : Int) (p : List UInt8) (h : RRT w bd bv bc F s G) (hp : p.length ≤ 140737488351232) (hW : s.D.W.length ≤ 1099511627776) :
    Calls Tryd.prog 31 #[.pointer (some ⟨bd, 0, none⟩), .int .i64 i, .string ⟨p.toArray⟩] w fun e w' => e = .returned (.int .i64 (s.D.over i p).2) ∧ ∃ F', RRT w' bd bv bc F' ⟨(s.D.over i p).1, s.A, s.ver, s.mark⟩ G ∧ Step (FC F bc) (FC F' bc) w w' := by
  refine (pr_over bd bv F s.D s.A G w i p h.1 hp hW).mono ?_
  rintro e w1 ⟨rfl, F1, hP1, hs1⟩
  exact ⟨rfl, F1, (h.step hP1 hs1).1, (h.step hP1 hs1).2⟩
theorem rr_write (i : Int) (p : List UInt8) (h : RRT w bd bv bc F s G) (hp : p.length ≤ 140737488351232) (hW : s.D.W.length ≤ 1099511627776) :
    Calls Tryd.prog 43 #[.pointer (some ⟨bd, 0, none⟩), .int .i64 i, .string ⟨p.toArray⟩] w fun e w' => e = .returned (.int .i64 (s.D.write i p).2) ∧ ∃ F', RRT w' bd bv bc F' ⟨(s.D.write i p).1, s.A, s.ver, s.mark⟩ G ∧ Step (FC F bc) (FC F' bc) w w' := by
  obtain ⟨Fd, hd, hsub, back⟩ := h.1.dev
  refine (r_write bd Fd s.D i p w hd hp hW).mono ?_
  rintro e w1 ⟨rfl, Fd1, hd1, hs1⟩
  obtain ⟨F1, hP1, hS1⟩ := back _ _ _ hd1 hs1
  exact ⟨rfl, F1, (h.step hP1 hS1).1, (h.step hP1 hS1).2⟩
theorem rr_read (i : Int) (h : RRT w bd bv bc F s G) :
    Calls Tryd.prog 32 #[.pointer (some ⟨bd, 0, none⟩), .int .i64 i] w fun e w' => e = .returned (.tuple #[.string ⟨(s.D.read i).1.toArray⟩, .int .i64 (s.D.read i).2]) ∧ w = w' := pr_read bd bv F s.D s.A G w i h.1
theorem rt_seal (k : K3) (bs : ByteArray) (a : Option Addr) (n c : Nat) (p : List UInt8) (h : RT w bd bv bc F s G) (hs : Sl w a n c (p.map byteV)) (hn : n ≤ 140737488351232) (hA : s.A.length ≤ 1099511627776) :
    Calls Tryd.prog 44 #[.pointer (some ⟨bv, 0, none⟩), .agg (keyCells k).toArray, .string bs, .slice a n c] w fun e w' => (∃ v, e = .returned v) ∧ ∃ F', RT w' bd bv bc F' ⟨s.D, (sealA s.A G k bs p).1, s.ver, s.mark⟩ G ∧ Step (FC F bc) (FC F' bc) w w' := by
  obtain ⟨Fv, hv, hsub, back⟩ := h.1.vault
  refine (f_seal bv Fv s.A G k bs a n c p w hv hs hn hA).mono ?_
  rintro e w1 ⟨rfl, Fv1, hv1, hs1⟩
  obtain ⟨F1, hP1, hS1⟩ := back _ _ _ _ hv1 hs1
  exact ⟨⟨_, rfl⟩, F1, (h.step hP1 hS1).1, (h.step hP1 hS1).2⟩
theorem rr_seal (k : K3) (bs : ByteArray) (p : List UInt8) (h : RRT w bd bv bc F s G) (hp : p.length ≤ 140737488351232) (hG : G.length ≤ 1099511627776) (hA : s.A.length ≤ 1099511627776) :
    Calls Tryd.prog 45 #[.pointer (some ⟨bv, 0, none⟩), .agg (keyCells k).toArray, .string bs, .string ⟨p.toArray⟩] w fun e w' => (∃ v, e = .returned v) ∧ ∃ F', RRT w' bd bv bc F' ⟨s.D, (sealA s.A G k bs p).1, s.ver, s.mark⟩ G ∧ Step (FC F bc) (FC F' bc) w w' := by
  obtain ⟨Fv, hv, hsub, back⟩ := h.1.vault
  refine (rf_seal bv Fv s.A G k bs p w hv hp hG hA).mono ?_
  rintro e w1 ⟨rfl, Fv1, hv1, hs1⟩
  obtain ⟨F1, hP1, hS1⟩ := back _ _ _ _ hv1 hs1
  exact ⟨⟨_, rfl⟩, F1, (h.step hP1 hS1).1, (h.step hP1 hS1).2⟩
end

def RTwn (B bd bv bc br bw be : Nat) (F H : Nat → Prop) (s : RS) (w : World) : Prop :=
  RT w bd bv bc F s [] ∧ RRT w br bw be H s [] ∧ (∀ i, FC F bc i → ¬ FC H be i) ∧ (∀ i, FC F bc i → B ≤ i) ∧ (∀ i, FC H be i → B ≤ i)
namespace RTwn
variable {B bd bv bc br bw be : Nat} {F H F' H' S : Nat → Prop} {s s' : RS} {w w' w1 w2 : World}
theorem kept (h : RTwn B bd bv bc br bw be F H s w) (k : Keeps No w w') : RTwn B bd bv bc br bw be F H s w' := ⟨h.1.kept k, h.2.1.kept k, h.2.2⟩
theorem step (h : RTwn B bd bv bc br bw be F H s w) (hB : B ≤ w.heap.size) (hd : RT w1 bd bv bc F' s' []) (s1 : Step (FC F bc) (FC F' bc) w w1) (hr : RRT w2 br bw be H' s' []) (s2 : Step (FC H be) (FC H' be) w1 w2) : RTwn B bd bv bc br bw be F' H' s' w2 := by
  obtain ⟨h1, h2, h3, h4, h5⟩ := h
  have hz := s1.keeps.size
  have a1 := s1.apart h3 h2.lt
  have a2 : ∀ i, FC H' be i → ¬ FC F' bc i := s2.apart (fun i hr hd => a1 i hd hr) hd.lt
  exact ⟨hd.keep s2.keeps (fun i hi hr => a1 i hi hr), hr, fun i hd hr => a2 i hr hd, fun i hi => (s1.fresh i hi).elim (h4 i) (fun h => by omega), fun i hi => (s2.fresh i hi).elim (h5 i) (fun h => by omega)⟩
theorem ref (h : RTwn B bd bv bc br bw be F H s w) (s1 : Keeps (FC F bc) w w1) : RRT w1 br bw be H s [] := h.2.1.keep s1 (fun i hi hf => h.2.2.1 i hf hi)
end RTwn

/-- What an act leaves. -/
def RCut (w : World) (bd bv bc br bw be n j gO : Nat) (opc : Array Value) (s12 s13 : Value) (wx : World) : Prop :=
  ∃ (s : RS) (F H : Nat → Prop) (e : Int), s12 = .int .i64 e ∧ s13 = .int .i64 e ∧ RTwn w.heap.size bd bv bc br bw be F H s wx ∧ s.D.K.length = n ∧ (s.D.W.length ≤ j + 1 ∧ s.A.length ≤ j + 1 ∧ s.ver ≤ j + 1 ∧ s.mark ≤ j + 1) ∧ wx.heap[gO]? = some (.cells opc 88 (0, 0)) ∧ ¬ FC F bc gO ∧ ¬ FC H be gO ∧ Keeps No w wx
theorem RCut.mk' {w W w1 w2 : World} {bd bv bc br bw be n j gO : Nat} {opc : Array Value} {F H F' H' : Nat → Prop} {s s' : RS} {e : Int} (hP : RTwn w.heap.size bd bv bc br bw be F H s W) (hk : Keeps No w W)
    (hO : W.heap[gO]? = some (.cells opc 88 (0, 0))) (n3 : ¬ FC F bc gO) (n4 : ¬ FC H be gO)
    (hd : RT w1 bd bv bc F' s' []) (s1 : Step (FC F bc) (FC F' bc) W w1) (hr : RRT w2 br bw be H' s' []) (s2 : Step (FC H be) (FC H' be) w1 w2) (hK : s'.D.K.length = n) (hb : s'.D.W.length ≤ j + 1 ∧ s'.A.length ≤ j + 1 ∧ s'.ver ≤ j + 1 ∧ s'.mark ≤ j + 1) : RCut w bd bv bc br bw be n j gO opc (.int .i64 e) (.int .i64 e) w2 := by
  have lO := (Array.getElem?_eq_some_iff.1 hO).1
  have hz := s1.keeps.size
  refine ⟨s', F', H', e, rfl, rfl, hP.step hk.size hd s1 hr s2, hK, hb, s2.keeps.blk (s1.keeps.blk hO n3) n4, s1.notIn7 n3 lO, s2.notIn7 n4 (by omega), ?_⟩
  exact (hk.trans s1.keeps (fun i hi h => absurd (hP.2.2.2.1 i h) (by omega))).trans s2.keeps (fun i hi h => absurd (hP.2.2.2.2 i h) (by omega))
theorem read_len8 (bd bv bc : Nat) (F : Nat → Prop) (s : RS) (G : List K3) (w : World) (h : RT w bd bv bc F s G) (i : Int) : (s.D.read i).1.length ≤ 140737488351232 := by
  obtain ⟨Fd, hd, _⟩ := h.1.dev
  exact read_len s.D hd.ok i
def k1t : K3 := (⟨1, by decide⟩, ⟨0, by decide⟩, ⟨0, by decide⟩)

set_option maxHeartbeats 16000000 in
theorem rootPlays_any (bs : Int) (a1 : Option Addr) (n1 c1 : Nat) (L : List OPR) (w : World) (hbs : (Lit.int .i64 bs).wf = true)
    (hs1 : SlK w 5 a1 n1 c1 (L.map oprV)) (hL : ∀ o ∈ L, OprOk w o) :
    Calls Tryd.prog 10 #[.int .i64 bs, .slice a1 n1 c1] w fun e w' => e = .returned (.bool true) ∧ Keeps No w w' := by
  have hlen : L.length = n1 := by simpa using hs1.len
  have hwm := hs1.max
  have hwl := hs1.le
  unfold maxLen at hwm
  have Hlen := Lib.hid hlen
  have HL := Lib.hid hL
  obtain ⟨m0, hm0, hm0', hm12⟩ := umod bs 5 (by omega)
  obtain ⟨N, hN⟩ : ∃ N : Nat, N = 1 + m0 := ⟨_, rfl⟩
  have hNi : (1 : Int) + (m0 : Int) = (N : Int) := by omega
  have hN1 : 1 ≤ N := by omega
  have hN12 : N ≤ 5 := by omega
  clear hlen hL hbs
  go_enter Tryd.func10, Tryd.ntmps10
  go_wp2_with fail
  refine (first08_any _).mono ?_
  rintro e w1 ⟨rfl, hk1⟩
  have hz1 := hk1.size
  clear hN
  go_wp2_with fail
  refine (d_new N w1 (by omega) (by omega)).mono ?_
  rintro e w2 ⟨bd, Fd, rfl, hd2, hFd, hk2⟩
  clear hNi hm0 hm0'
  go_wp2_with fail
  refine (f_new w2).mono ?_
  rintro e w3 ⟨bv, Fv, rfl, hv3, hFv, hk3⟩
  obtain ⟨F, hV, hFw⟩ := rtnew N w1 bd bv Fd Fv w2 w3 _ hd2 hFd hv3 hFv hk2 hk3
  have hkC : Keeps No w3 (w3.alloc (.cells #[.int .i64 0, .int .i64 0] 55)) := (Keeps.refl No w3).alloc _
  have hk03 := ((hk1.transNo hk2).transNo hk3).transNo hkC
  clear hd2 hv3 hFd hFv hkC
  go_wp2_with fail
  generalize (w3.alloc (.cells #[.int .i64 0, .int .i64 0] 55)) = w4 at hV hk03 ⊢
  generalize w3.heap.size = bc at hV hFw ⊢
  refine (r_new N w4 (by omega) (by omega)).mono ?_
  rintro e w5 ⟨br, Fr, rfl, hr5, hFr, hk5⟩
  have hbV := heap_alloc_new w5 (.cells #[.slice none 0 0, .slice none 0 0] 70)
  have hkV : Keeps No w5 (w5.alloc (.cells #[.slice none 0 0, .slice none 0 0] 70)) := (Keeps.refl No w5).alloc _
  have hzV : (w5.alloc (.cells #[.slice none 0 0, .slice none 0 0] 70)).heap.size = w5.heap.size + 1 := by simp
  obtain ⟨H, hR, hHw⟩ := prnew N w4 br w5.heap.size Fr _ _ [] [] w5 _ hr5 hFr (RVF.new _ _ hbV) (fun i hi => by rw [hi]; exact Nat.le_refl _) hk5 hkV
  generalize hw6 : (w5.alloc (.cells #[.slice none 0 0, .slice none 0 0] 70)) = w6 at hbV hkV hR hzV
  have hbE := heap_alloc_new w6 (.cells #[.int .i64 0, .int .i64 0] 86)
  have hkE : Keeps No w6 (w6.alloc (.cells #[.int .i64 0, .int .i64 0] 86)) := (Keeps.refl No w6).alloc _
  have hk46 := (hk5.transNo hkV).transNo hkE
  have hP7 : RTwn w.heap.size bd bv bc br w5.heap.size w6.heap.size F H (st0 ⟨List.replicate N (full []), [], none⟩) (w6.alloc (.cells #[.int .i64 0, .int .i64 0] 86)) := by
    refine ⟨hV.kept hk46, ⟨hR.kept hkE, hbE, fun h => by have := hR.lt _ h; omega⟩, fun i hf hh => ?_, fun i h => Nat.le_trans hz1 (hFw i h), fun i h => ?_⟩
    · have h1 := hV.lt i hf
      rcases hh with hh | rfl
      · have := hHw i hh; omega
      · have := (hk5.transNo hkV).size; omega
    · rcases h with h | rfl
      · exact Nat.le_trans hk03.size (hHw i h)
      · have := hk03.size; have := (hk5.transNo hkV).size; omega
  have hk07 := hk03.transNo hk46
  subst hw6
  clear hV hR hFw hHw hr5 hFr hbV hkV hk46 hk5 hk3 hk2 hk03 hz1 hbE hkE
  rw [hzV] at hP7
  go_wp2_with fail
  generalize ((w5.alloc (.cells #[.slice none 0 0, .slice none 0 0] 70)).alloc (.cells #[.int .i64 0, .int .i64 0] 86)) = w7 at hP7 hk07 ⊢
  generalize hbe : w5.heap.size + 1 = be at hP7 ⊢
  generalize w5.heap.size = bw at hP7 hbe ⊢
  clear hbe hzV
  have hKl : (st0 ⟨List.replicate N (full []), [], none⟩).D.K.length = N := by simp [st0]
  have hbd : (st0 ⟨List.replicate N (full []), [], none⟩).D.W.length ≤ 0 ∧ (st0 ⟨List.replicate N (full []), [], none⟩).A.length ≤ 0 ∧ (st0 ⟨List.replicate N (full []), [], none⟩).ver ≤ 0 ∧ (st0 ⟨List.replicate N (full []), [], none⟩).mark ≤ 0 := ⟨Nat.le_refl _, Nat.le_refl _, Nat.le_refl _, Nat.le_refl _⟩
  generalize (st0 ⟨List.replicate N (full []), [], none⟩) = s3 at hP7 hKl hbd
  have hfr : ∀ (G : Nat → Prop), (∀ i, G i → w.heap.size ≤ i) → ∀ (a : Option Addr) (n c : Nat) (xs : List Value), Sl w a n c xs → 0 < n → ¬ G (a.getD default).block := fun G hG a n c xs hs h0 h => by
    have := hs.lt h0
    have := hG _ h
    omega
  have Hfr := Lib.hid hfr
  clear hfr
  have HKl := Lib.hid hKl
  clear hKl
  go_loopg [51] n1 (fun q i wr => ∃ (j : Nat) (s : RS) (F H : Nat → Prop), j ≤ n1 ∧ q = n1 - j ∧ i = .int .i64 (j : Int) ∧ RTwn w.heap.size bd bv bc br bw be F H s wr ∧ Hid (s.D.K.length = N) ∧ (s.D.W.length ≤ j ∧ s.A.length ≤ j ∧ s.ver ≤ j ∧ s.mark ≤ j) ∧ Keeps No w wr)
  case atStart => exact ⟨0, s3, F, H, Nat.zero_le _, rfl, rfl, hP7, HKl, hbd, hk07⟩
  case round =>
    clear hP7 hbd HKl hk07
    obtain ⟨j, s, F, H, hj, hq, rfl, hP, HKl, ⟨hWl, hAl, hvl, hml⟩, hkr⟩ := hrel
    have Hq := Lib.hid hq
    clear hq
    by_cases hlt : j < n1
    case neg =>
      as_aux_lemma =>
        go_wp2_with fail
        refine (rget_nil bd bv _).mono ?_
        rintro e wa ⟨rfl, rfl⟩
        go_wp2_with fail
        refine (rput_nilD _ _ _ _ _ _).mono ?_
        rintro e wa ⟨rfl, rfl⟩
        go_wp2_with fail
        refine (rput_nilV _ _ _ _ _ _).mono ?_
        rintro e wa ⟨rfl, rfl⟩
        go_wp2_with fail
        refine (rversion_nil _).mono ?_
        rintro e wa ⟨rfl, rfl⟩
        go_wp2_with fail
        go_ret
        exact ⟨rfl, hkr⟩
    have hlt' : j < L.length := by rw [Hlen.out]; exact hlt
    have hsr := hs1.kept hkr
    have hix := hsr.ix (P := Tryd.prog) Tryd.underlying83 opr_size hlt .i64
    obtain ⟨hld, _⟩ := hsr.load (P := Tryd.prog) (ty := 88) Tryd.underlying88 rfl opr_size hlt
    obtain ⟨o, ho⟩ : ∃ o, o = L[j] := ⟨_, rfl⟩
    have hxc : (L.map oprV).getD j [] = oprV o := by rw [ho]; simp [hlt']
    obtain ⟨⟨hB, hBn⟩, hKp, hKn⟩ := HL.out o (by rw [ho]; exact List.getElem_mem hlt')
    obtain ⟨⟨kd, hkd⟩, ⟨bl, hbl⟩, ⟨fr, hfr⟩, ⟨aB, nB, cB, pB⟩, ⟨aK, nK, cK, pK⟩⟩ := o
    rw [hxc, show (oprV (⟨kd, hkd⟩, ⟨bl, hbl⟩, ⟨fr, hfr⟩, ⟨aB, nB, cB, pB⟩, ⟨aK, nK, cK, pK⟩)).toArray = #[.int .i64 kd, .int .i64 bl, .int .i64 fr, .slice aB nB cB, .slice aK nK cK] from rfl] at hld
    simp only at hB hBn hKp hKn
    have hlB : pB.length = nB := by simpa using hB.len
    have HlB := Lib.hid hlB
    have hblw := wf_i64_iff hbl
    clear hxc ho hlB hsr hkd hbl hfr
    go_upto_region 10 with (refine wpList_loadV (op := ⟨some 55, _, _, _, _, _⟩) rfl 88 (.tmp 54) rfl _ rfl _ hld ?_)
    have hbN := heap_alloc_new wr (.cells #[.int .i64 kd, .int .i64 bl, .int .i64 fr, .slice aB nB cB, .slice aK nK cK] 88)
    have hkN : Keeps No wr (wr.alloc (.cells #[.int .i64 kd, .int .i64 bl, .int .i64 fr, .slice aB nB cB, .slice aK nK cK] 88)) := (Keeps.refl No wr).alloc _
    have hzN : (wr.alloc (.cells #[.int .i64 kd, .int .i64 bl, .int .i64 fr, .slice aB nB cB, .slice aK nK cK] 88)).heap.size = wr.heap.size + 1 := by simp
    generalize (wr.alloc (.cells #[.int .i64 kd, .int .i64 bl, .int .i64 fr, .slice aB nB cB, .slice aK nK cK] 88)) = w7 at hbN hkN hzN ⊢
    obtain ⟨x0, x1, x2, x3, x4⟩ := cells5r hbN
    have hk7 := hkr.transNo hkN
    have hP7 := hP.kept hkN
    have hnd0 : ∀ i, FC F bc i → i < wr.heap.size := hP.1.lt
    have hnr0 : ∀ i, FC H be i → i < wr.heap.size := hP.2.1.lt
    have m3 : ¬ FC F bc wr.heap.size := fun h => by have := hnd0 _ h; omega
    have m4 : ¬ FC H be wr.heap.size := fun h => by have := hnr0 _ h; omega
    have hzN' : wr.heap.size < w7.heap.size := by omega
    clear hld hix hzN hnd0 hnr0 hP
    by_cases h60 : 60 ≤ j
    · as_aux_lemma =>
        have hd60 : decide ((60 : Int) ≤ (j : Int)) = true := by simp; omega
        go_wp2_with fail
        refine (rget_nil bd bv _).mono ?_
        rintro e wa ⟨rfl, rfl⟩
        go_wp2_with fail
        refine (rput_nilD _ _ _ _ _ _).mono ?_
        rintro e wa ⟨rfl, rfl⟩
        go_wp2_with fail
        refine (rput_nilV _ _ _ _ _ _).mono ?_
        rintro e wa ⟨rfl, rfl⟩
        go_wp2_with fail
        refine (rversion_nil _).mono ?_
        rintro e wa ⟨rfl, rfl⟩
        go_wp2_with fail
        go_ret
        exact ⟨rfl, hk7⟩
    have hd60 : decide ((60 : Int) ≤ (j : Int)) = false := by simp; omega
    by_cases hB300 : 300 < nB
    · as_aux_lemma =>
        have hdB : decide ((300 : Int) < (nB : Int)) = true := by simp; omega
        go_wp2_with fail
        refine (rget_nil bd bv _).mono ?_
        rintro e wa ⟨rfl, rfl⟩
        go_wp2_with fail
        refine (rput_nilD _ _ _ _ _ _).mono ?_
        rintro e wa ⟨rfl, rfl⟩
        go_wp2_with fail
        refine (rput_nilV _ _ _ _ _ _).mono ?_
        rintro e wa ⟨rfl, rfl⟩
        go_wp2_with fail
        refine (rversion_nil _).mono ?_
        rintro e wa ⟨rfl, rfl⟩
        go_wp2_with fail
        go_ret
        exact ⟨rfl, hk7⟩
    have hdB : decide ((300 : Int) < (nB : Int)) = false := by simp; omega
    by_cases hK60 : 60 < nK
    · as_aux_lemma =>
        have hdK : decide ((60 : Int) < (nK : Int)) = true := by simp; omega
        go_wp2_with fail
        refine (rget_nil bd bv _).mono ?_
        rintro e wa ⟨rfl, rfl⟩
        go_wp2_with fail
        refine (rput_nilD _ _ _ _ _ _).mono ?_
        rintro e wa ⟨rfl, rfl⟩
        go_wp2_with fail
        refine (rput_nilV _ _ _ _ _ _).mono ?_
        rintro e wa ⟨rfl, rfl⟩
        go_wp2_with fail
        refine (rversion_nil _).mono ?_
        rintro e wa ⟨rfl, rfl⟩
        go_wp2_with fail
        go_ret
        exact ⟨rfl, hk7⟩
    have hdK : decide ((60 : Int) < (nK : Int)) = false := by simp; omega
    have hj60 : j < 60 := by omega
    have hBd := Hfr.out (FC F bc) hP7.2.2.2.1 _ _ _ _ hB
    have hKd := Hfr.out (FC F bc) hP7.2.2.2.1 _ _ _ _ hKp
    have hKr := Hfr.out (FC H be) hP7.2.2.2.2 _ _ _ _ hKp
    go_upto_block 2 with fail
    generalize (IntKind.u64.wrap kd).tmod 8 = q
    go_cut [15, 16] (fun s12 s13 wx => RCut w bd bv bc br bw be N j wr.heap.size #[.int .i64 kd, .int .i64 bl, .int .i64 fr, .slice aB nB cB, .slice aK nK cK] s12 s13 wx)
    case first =>
      have same : RCut w bd bv bc br bw be N j wr.heap.size #[.int .i64 kd, .int .i64 bl, .int .i64 fr, .slice aB nB cB, .slice aK nK cK] (.int .i64 0) (.int .i64 0) w7 :=
        ⟨s, F, H, 0, rfl, rfl, hP7, HKl.out, ⟨by omega, by omega, by omega, by omega⟩, hbN, m3, m4, hk7⟩
      by_cases q0 : q = 0
      · as_aux_lemma =>
          have e0 : (q == 0) = true := by rw [beq_iff_eq]; exact q0
          clear q0 same
          have hwd := rput_any bd bv bc F s [] aB nB cB pB w7.drew (hP7.1.kept (Keeps.refl No w7).drew) (by omega) (by omega) (by omega) (hB.kept hk7.drew) hBn
          unfold RPutPost at hwd
          obtain ⟨l1, l2, l3, l4, _⟩ := rput_len s [] pB
          have l5 := rput_mark s [] pB j hml hAl
          have hst := fun wx (hx : Keeps No w wx) => strB (hB.kept hx)
          go_wp2_with fail
          refine wp_region_held_drew (S := fun wx => wx.cell? ⟨wr.heap.size, 3, none⟩ = some (.slice aB nB cB) ∧ (convert 35 9 (.slice aB nB cB)).run Tryd.prog wx = .ok (.string ⟨pB.toArray⟩) wx) (by kernel_rfl) (⟨x3, hst _ hk7.drew⟩) (fun hS => ?_)
          refine tk (i := 0) (oi := ⟨some 76, _, _, _, _, _⟩) (v := ?_) rfl (by kernel_rfl) (fun _ _ _ h => h) (by assumption) (by rfl) (fun w hSw => ?_) ?_; rotate_left; (focus (first | (go_simp; done) | (go_simp; with_reducible rfl))); simp only [Act.put, List.setIfInBounds_toArray, List.set_cons_zero, List.set_cons_succ]
          refine tk (i := 1) (oi := ⟨some 77, _, _, _, _, _⟩) (v := ?_) rfl (by kernel_rfl) (fun _ _ _ h => h) (by assumption) (by rfl) (fun w hSw => ?_) ?_; rotate_left; (focus (first | (go_simp; done) | (go_simp; with_reducible rfl))); simp only [Act.put, List.setIfInBounds_toArray, List.set_cons_zero, List.set_cons_succ]
          refine tk (i := 2) (oi := ⟨some 78, _, _, _, _, _⟩) (v := ?_) rfl (by kernel_rfl) (fun _ _ _ h => h) (by assumption) (by rfl) (fun w hSw => ?_) ?_; rotate_left; (focus (first | (go_simp; done) | (go_simp; with_reducible rfl))); simp only [Act.put, List.setIfInBounds_toArray, List.set_cons_zero, List.set_cons_succ]
          refine tk (i := 3) (oi := ⟨some 79, _, _, _, _, _⟩) (v := ?_) rfl (by kernel_rfl) (fun _ _ _ h => h) (by assumption) (by rfl) (fun w hSw => ?_) ?_; rotate_left; (focus (first | (go_simp; done) | (go_simp; with_reducible rfl))); simp only [Act.put, List.setIfInBounds_toArray, List.set_cons_zero, List.set_cons_succ]
          refine tk (i := 4) (oi := ⟨some 80, _, _, _, _, _⟩) (v := ?_) rfl (by kernel_rfl) (fun _ _ _ h => h) (by assumption) (by rfl) (fun w hSw => ?_) ?_; rotate_left; (focus (first | (go_simp; done) | (go_simp; with_reducible rfl))); simp only [Act.put, List.setIfInBounds_toArray, List.set_cons_zero, List.set_cons_succ]
          refine tk (i := 6) (oi := ⟨some 82, _, _, _, _, _⟩) (v := ?_) rfl (by kernel_rfl) (fun _ _ _ h => h) (by assumption) (by rfl) (fun w hSw => ?_) ?_; rotate_left; (focus (first | (go_simp; done) | (go_simp; with_reducible rfl))); simp only [Act.put, List.setIfInBounds_toArray, List.set_cons_zero, List.set_cons_succ]
          refine tk (i := 7) (oi := ⟨some 83, _, _, _, _, _⟩) (v := ?_) rfl (by kernel_rfl) (fun _ _ _ h => h) (by assumption) (by rfl) (fun w hSw => ?_) ?_; rotate_left; (focus (first | (go_simp; done) | (go_simp; with_reducible rfl))); simp only [Act.put, List.setIfInBounds_toArray, List.set_cons_zero, List.set_cons_succ]
          refine tk (i := 8) (oi := ⟨some 84, _, _, _, _, _⟩) (v := ?_) rfl (by kernel_rfl) (fun _ _ _ h => h) (by assumption) (by rfl) (fun w hSw => ?_) ?_; rotate_left; (focus (first | (go_simp; done) | (go_simp; with_reducible rfl))); simp only [Act.put, List.setIfInBounds_toArray, List.set_cons_zero, List.set_cons_succ]
          refine tk (i := 9) (oi := ⟨some 85, _, _, _, _, _⟩) (v := ?_) rfl (by kernel_rfl) (fun _ _ _ h => h) (by assumption) (by rfl) (fun w hSw => ?_) ?_; rotate_left; (focus (first | (go_simp; done) | (go_simp; with_reducible rfl))); simp only [Act.put, List.setIfInBounds_toArray, List.set_cons_zero, List.set_cons_succ]
          refine tk (i := 10) (oi := ⟨some 86, _, _, _, _, _⟩) (v := ?_) rfl (by kernel_rfl) (fun _ _ _ h => h) (by assumption) (by rfl) (fun w hSw => ?_) ?_; rotate_left; (focus (first | (go_simp; done) | (go_simp; with_reducible rfl))); simp only [Act.put, List.setIfInBounds_toArray, List.set_cons_zero, List.set_cons_succ]
          refine tk (i := 11) (oi := ⟨some 87, _, _, _, _, _⟩) (v := ?_) rfl (by kernel_rfl) (fun _ _ _ h => h) (by assumption) (by rfl) (fun w hSw => ?_) ?_; rotate_left; (focus (first | (go_simp; done) | (go_simp; with_reducible rfl))); simp only [Act.put, List.setIfInBounds_toArray, List.set_cons_zero, List.set_cons_succ]
          refine alone (i := 5) (oi := ⟨some 81, _, _, _, _, _⟩) rfl (by kernel_rfl) (by rfl) (fun K hK => ?_); go_simp
          refine hwd.mono ?_
          rintro e w8 ⟨rfl, F8, hd8, hs8⟩
          have hk8 : Keeps No w w8 := hk7.drew.trans hs8.keeps (fun i hi h => absurd (hP7.2.2.2.1 i h) (by omega))
          have hb8 := hs8.keeps.blk (show w7.drew.heap[wr.heap.size]? = _ from hbN) m3
          obtain ⟨_, z1, z2, z3, z4⟩ := cells5r hb8
          have hrw := rrput_any br bw be H s [] pB w8 (hP7.ref (Keeps.ofDrew hs8.keeps)) (by omega) (Nat.zero_le _) (by omega) (by omega) (by have := HlB.out; omega)
          unfold RRPutPost at hrw
          go_simp
          refine hK.out (fun wx => wx.cell? ⟨wr.heap.size, 3, none⟩ = some (.slice aB nB cB) ∧ (convert 35 9 (.slice aB nB cB)).run Tryd.prog wx = .ok (.string ⟨pB.toArray⟩) wx) _ _ (fun _ h => h) (⟨z3, hst _ hk8⟩) ?_
          clear hK K hS
          intro hS
          refine alone (i := 12) (oi := ⟨some 88, _, _, _, _, _⟩) rfl (by kernel_rfl) (by rfl) (fun K hK => ?_); go_simp
          refine hrw.mono ?_
          rintro e w9 ⟨rfl, H9, hr9, hs9⟩
          have hk9 : Keeps No w w9 := hk8.trans hs9.keeps (fun i hi h => absurd (hP7.2.2.2.2 i h) (by omega))
          have hb9 := hs9.keeps.blk hb8 m4
          obtain ⟨_, u1, u2, u3, u4⟩ := cells5r hb9
          go_simp
          refine hK.out (fun wx => wx.cell? ⟨wr.heap.size, 3, none⟩ = some (.slice aB nB cB) ∧ (convert 35 9 (.slice aB nB cB)).run Tryd.prog wx = .ok (.string ⟨pB.toArray⟩) wx) _ _ (fun _ h => h) (⟨u3, hst _ hk9⟩) ?_
          clear hK K hS
          intro hS
          refine tk (i := 13) (oi := ⟨some 15, _, _, _, _, _⟩) (v := ?_) rfl (by kernel_rfl) (fun _ _ _ h => h) (by assumption) (by rfl) (fun w hSw => ?_) ?_; rotate_left; (focus (first | (go_simp; done) | (go_simp; with_reducible rfl))); simp only [Act.put, List.setIfInBounds_toArray, List.set_cons_zero, List.set_cons_succ]
          refine tk (i := 14) (oi := ⟨some 16, _, _, _, _, _⟩) (v := ?_) rfl (by kernel_rfl) (fun _ _ _ h => h) (by assumption) (by rfl) (fun w hSw => ?_) ?_; rotate_left; (focus (first | (go_simp; done) | (go_simp; with_reducible rfl))); simp only [Act.put, List.setIfInBounds_toArray, List.set_cons_zero, List.set_cons_succ]
          refine wpAnyH_done (by kernel_rfl) ?_ _
          go_wp2_with fail
          go_meet
          exact RCut.mk' (hP7.kept (Keeps.refl No w7).drew) hk7.drew hbN m3 m4 hd8 hs8 hr9 hs9 (by rw [l1]; exact HKl.out) ⟨by omega, by omega, by omega, l5⟩
      have e0 : (q == 0) = false := by rw [beq_eq_false_iff_ne]; exact q0
      clear q0
      by_cases q2 : q = 2
      · as_aux_lemma =>
          have e2 : (q == 2) = true := by rw [beq_iff_eq]; exact q2
          clear q2 same
          have hwd := rt_limit bd bv bc F s [] w7 bl hP7.1 hblw.2

          go_wp2_with fail
          refine hwd.mono ?_
          rintro e w8 ⟨rfl, F8, hd8, hs8⟩
          clear hwd
          have hk8 : Keeps No w w8 := hk7.trans hs8.keeps (fun i hi h => absurd (hP7.2.2.2.1 i h) (by omega))
          have hb8 := hs8.keeps.blk hbN m3
          obtain ⟨_, z1, z2, z3, z4⟩ := cells5r hb8
          have hrw := rr_limit br bw be H s [] w8 bl (hP7.ref hs8.keeps) hblw.2
          go_wp2_with fail
          refine hrw.mono ?_
          rintro e w9 ⟨rfl, H9, hr9, hs9⟩
          go_wp2_with fail
          go_meet
          exact RCut.mk' hP7 hk7 hbN m3 m4 hd8 hs8 hr9 hs9 HKl.out ⟨by show s.D.W.length ≤ _; omega, by show s.A.length ≤ _; omega, by show s.ver ≤ _; omega, by show s.mark ≤ _; omega⟩
      have e2 : (q == 2) = false := by rw [beq_eq_false_iff_ne]; exact q2
      clear q2
      by_cases q3 : q = 3
      · as_aux_lemma =>
          have e3 : (q == 3) = true := by rw [beq_iff_eq]; exact q3
          clear q3 same
          have hwd := rt_crash bd bv bc F s [] w7 aK nK cK pK hP7.1 (hKp.kept hk7) hKd
          obtain ⟨l1, l2⟩ := crash_len7 s.D pK
          go_wp2_with fail
          refine hwd.mono ?_
          rintro e w8 ⟨rfl, F8, hd8, hs8⟩
          clear hwd
          have hk8 : Keeps No w w8 := hk7.trans hs8.keeps (fun i hi h => absurd (hP7.2.2.2.1 i h) (by omega))
          have hb8 := hs8.keeps.blk hbN m3
          obtain ⟨_, z1, z2, z3, z4⟩ := cells5r hb8
          have hrw := rr_crash br bw be H s [] w8 aK nK cK pK (hP7.ref hs8.keeps) (by rw [HKl.out]; omega) (hKp.kept hk8) hKr
          go_wp2_with fail
          refine hrw.mono ?_
          rintro e w9 ⟨rfl, H9, hr9, hs9⟩
          go_wp2_with fail
          go_meet
          exact RCut.mk' hP7 hk7 hbN m3 m4 hd8 hs8 hr9 hs9 (by show (s.D.crash pK).K.length = N; rw [l1]; exact HKl.out) ⟨by show (s.D.crash pK).W.length ≤ _; omega, by show s.A.length ≤ _; omega, by show s.ver ≤ _; omega, by show s.mark ≤ _; omega⟩
      have e3 : (q == 3) = false := by rw [beq_eq_false_iff_ne]; exact q3
      clear q3
      by_cases q4 : q = 4
      · as_aux_lemma =>
          have e4 : (q == 4) = true := by rw [beq_iff_eq]; exact q4
          clear q4 same
          have hwd := rt_over bd bv bc F s [] w7.drew bl aB nB cB pB (hP7.1.kept (Keeps.refl No w7).drew) (hB.kept hk7.drew) hBn hBd
          obtain ⟨l1, l2⟩ := over_len7 s.D bl pB
          have hst := fun wx (hx : Keeps No w wx) => strB (hB.kept hx)
          go_wp2_with fail
          refine wp_region_held_drew (S := fun wx => wx.cell? ⟨wr.heap.size, 1, none⟩ = some (.int .i64 bl) ∧ wx.cell? ⟨wr.heap.size, 3, none⟩ = some (.slice aB nB cB) ∧ (convert 35 9 (.slice aB nB cB)).run Tryd.prog wx = .ok (.string ⟨pB.toArray⟩) wx) (by kernel_rfl) (⟨x1, x3, hst _ hk7.drew⟩) (fun hS => ?_)
          refine tk (i := 0) (oi := ⟨some 111, _, _, _, _, _⟩) (v := ?_) rfl (by kernel_rfl) (fun _ _ _ h => h) (by assumption) (by rfl) (fun w hSw => ?_) ?_; rotate_left; (focus (first | (go_simp; done) | (go_simp; with_reducible rfl))); simp only [Act.put, List.setIfInBounds_toArray, List.set_cons_zero, List.set_cons_succ]
          refine tk (i := 1) (oi := ⟨some 112, _, _, _, _, _⟩) (v := ?_) rfl (by kernel_rfl) (fun _ _ _ h => h) (by assumption) (by rfl) (fun w hSw => ?_) ?_; rotate_left; (focus (first | (go_simp; done) | (go_simp; with_reducible rfl))); simp only [Act.put, List.setIfInBounds_toArray, List.set_cons_zero, List.set_cons_succ]
          refine tk (i := 2) (oi := ⟨some 113, _, _, _, _, _⟩) (v := ?_) rfl (by kernel_rfl) (fun _ _ _ h => h) (by assumption) (by rfl) (fun w hSw => ?_) ?_; rotate_left; (focus (first | (go_simp; done) | (go_simp; with_reducible rfl))); simp only [Act.put, List.setIfInBounds_toArray, List.set_cons_zero, List.set_cons_succ]
          refine tk (i := 3) (oi := ⟨some 114, _, _, _, _, _⟩) (v := ?_) rfl (by kernel_rfl) (fun _ _ _ h => h) (by assumption) (by rfl) (fun w hSw => ?_) ?_; rotate_left; (focus (first | (go_simp; done) | (go_simp; with_reducible rfl))); simp only [Act.put, List.setIfInBounds_toArray, List.set_cons_zero, List.set_cons_succ]
          refine tk (i := 4) (oi := ⟨some 115, _, _, _, _, _⟩) (v := ?_) rfl (by kernel_rfl) (fun _ _ _ h => h) (by assumption) (by rfl) (fun w hSw => ?_) ?_; rotate_left; (focus (first | (go_simp; done) | (go_simp; with_reducible rfl))); simp only [Act.put, List.setIfInBounds_toArray, List.set_cons_zero, List.set_cons_succ]
          refine tk (i := 6) (oi := ⟨some 117, _, _, _, _, _⟩) (v := ?_) rfl (by kernel_rfl) (fun _ _ _ h => h) (by assumption) (by rfl) (fun w hSw => ?_) ?_; rotate_left; (focus (first | (go_simp; done) | (go_simp; with_reducible rfl))); simp only [Act.put, List.setIfInBounds_toArray, List.set_cons_zero, List.set_cons_succ]
          refine tk (i := 7) (oi := ⟨some 118, _, _, _, _, _⟩) (v := ?_) rfl (by kernel_rfl) (fun _ _ _ h => h) (by assumption) (by rfl) (fun w hSw => ?_) ?_; rotate_left; (focus (first | (go_simp; done) | (go_simp; with_reducible rfl))); simp only [Act.put, List.setIfInBounds_toArray, List.set_cons_zero, List.set_cons_succ]
          refine tk (i := 8) (oi := ⟨some 119, _, _, _, _, _⟩) (v := ?_) rfl (by kernel_rfl) (fun _ _ _ h => h) (by assumption) (by rfl) (fun w hSw => ?_) ?_; rotate_left; (focus (first | (go_simp; done) | (go_simp; with_reducible rfl))); simp only [Act.put, List.setIfInBounds_toArray, List.set_cons_zero, List.set_cons_succ]
          refine tk (i := 9) (oi := ⟨some 120, _, _, _, _, _⟩) (v := ?_) rfl (by kernel_rfl) (fun _ _ _ h => h) (by assumption) (by rfl) (fun w hSw => ?_) ?_; rotate_left; (focus (first | (go_simp; done) | (go_simp; with_reducible rfl))); simp only [Act.put, List.setIfInBounds_toArray, List.set_cons_zero, List.set_cons_succ]
          refine tk (i := 10) (oi := ⟨some 121, _, _, _, _, _⟩) (v := ?_) rfl (by kernel_rfl) (fun _ _ _ h => h) (by assumption) (by rfl) (fun w hSw => ?_) ?_; rotate_left; (focus (first | (go_simp; done) | (go_simp; with_reducible rfl))); simp only [Act.put, List.setIfInBounds_toArray, List.set_cons_zero, List.set_cons_succ]
          refine tk (i := 11) (oi := ⟨some 122, _, _, _, _, _⟩) (v := ?_) rfl (by kernel_rfl) (fun _ _ _ h => h) (by assumption) (by rfl) (fun w hSw => ?_) ?_; rotate_left; (focus (first | (go_simp; done) | (go_simp; with_reducible rfl))); simp only [Act.put, List.setIfInBounds_toArray, List.set_cons_zero, List.set_cons_succ]
          refine alone (i := 5) (oi := ⟨some 116, _, _, _, _, _⟩) rfl (by kernel_rfl) (by rfl) (fun K hK => ?_); go_simp
          refine hwd.mono ?_
          rintro e w8 ⟨rfl, F8, hd8, hs8⟩
          have hk8 : Keeps No w w8 := hk7.drew.trans hs8.keeps (fun i hi h => absurd (hP7.2.2.2.1 i h) (by omega))
          have hb8 := hs8.keeps.blk (show w7.drew.heap[wr.heap.size]? = _ from hbN) m3
          obtain ⟨_, z1, z2, z3, z4⟩ := cells5r hb8
          have hrw := rr_over br bw be H s [] w8 bl pB (hP7.ref (Keeps.ofDrew hs8.keeps)) (by have := HlB.out; omega) (by omega)
          go_simp
          refine hK.out (fun wx => wx.cell? ⟨wr.heap.size, 1, none⟩ = some (.int .i64 bl) ∧ wx.cell? ⟨wr.heap.size, 3, none⟩ = some (.slice aB nB cB) ∧ (convert 35 9 (.slice aB nB cB)).run Tryd.prog wx = .ok (.string ⟨pB.toArray⟩) wx) _ _ (fun _ h => h) (⟨z1, z3, hst _ hk8⟩) ?_
          clear hK K hS
          intro hS
          refine alone (i := 12) (oi := ⟨some 123, _, _, _, _, _⟩) rfl (by kernel_rfl) (by rfl) (fun K hK => ?_); go_simp
          refine hrw.mono ?_
          rintro e w9 ⟨rfl, H9, hr9, hs9⟩
          have hk9 : Keeps No w w9 := hk8.trans hs9.keeps (fun i hi h => absurd (hP7.2.2.2.2 i h) (by omega))
          have hb9 := hs9.keeps.blk hb8 m4
          obtain ⟨_, u1, u2, u3, u4⟩ := cells5r hb9
          go_simp
          refine hK.out (fun wx => wx.cell? ⟨wr.heap.size, 1, none⟩ = some (.int .i64 bl) ∧ wx.cell? ⟨wr.heap.size, 3, none⟩ = some (.slice aB nB cB) ∧ (convert 35 9 (.slice aB nB cB)).run Tryd.prog wx = .ok (.string ⟨pB.toArray⟩) wx) _ _ (fun _ h => h) (⟨u1, u3, hst _ hk9⟩) ?_
          clear hK K hS
          intro hS
          refine tk (i := 13) (oi := ⟨some 15, _, _, _, _, _⟩) (v := ?_) rfl (by kernel_rfl) (fun _ _ _ h => h) (by assumption) (by rfl) (fun w hSw => ?_) ?_; rotate_left; (focus (first | (go_simp; done) | (go_simp; with_reducible rfl))); simp only [Act.put, List.setIfInBounds_toArray, List.set_cons_zero, List.set_cons_succ]
          refine tk (i := 14) (oi := ⟨some 16, _, _, _, _, _⟩) (v := ?_) rfl (by kernel_rfl) (fun _ _ _ h => h) (by assumption) (by rfl) (fun w hSw => ?_) ?_; rotate_left; (focus (first | (go_simp; done) | (go_simp; with_reducible rfl))); simp only [Act.put, List.setIfInBounds_toArray, List.set_cons_zero, List.set_cons_succ]
          refine wpAnyH_done (by kernel_rfl) ?_ _
          go_wp2_with fail
          go_meet
          exact RCut.mk' (hP7.kept (Keeps.refl No w7).drew) hk7.drew hbN m3 m4 hd8 hs8 hr9 hs9 (by show (s.D.over bl pB).1.K.length = N; rw [l1]; exact HKl.out) ⟨by show (s.D.over bl pB).1.W.length ≤ _; omega, by show s.A.length ≤ _; omega, by show s.ver ≤ _; omega, by show s.mark ≤ _; omega⟩
      have e4 : (q == 4) = false := by rw [beq_eq_false_iff_ne]; exact q4
      clear q4
      by_cases q5 : q = 5
      · as_aux_lemma =>
          have e5 : (q == 5) = true := by rw [beq_iff_eq]; exact q5
          clear q5 same
          have hR16 := read_len8 bd bv bc F s [] w7 hP7.1 fr
          generalize hR : s.D.read fr = R at hR16
          have hrd := rt_read bd bv bc F s [] w7 fr hP7.1
          rw [hR] at hrd
          go_wp2_with fail
          refine hrd.mono ?_
          rintro e wa ⟨va, rfl, howna, hka⟩
          clear hrd
          have hrr := rr_read br bw be H s [] wa fr (hP7.2.1.kept hka)
          rw [hR] at hrr
          have hba := hka.blk hbN (not_No _)
          obtain ⟨_, y1, y2, y3, y4⟩ := cells5r hba
          obtain ⟨aa, ca, rfl, hsa, hfa⟩ := Sl.ofOwn howna
          clear hR
          go_wp2_with fail
          refine hrr.mono ?_
          rintro e wb ⟨rfl, rfl⟩
          clear hrr
          have hk0a := hk7.transNo hka
          have hPa := hP7.kept hka
          have hFlt := hP7.1.lt
          have hwd := rt_over bd bv bc F s [] wa.drew bl aa R.1.length ca R.1 (hPa.1.kept (Keeps.refl No wa).drew) (hsa.kept (Keeps.refl No wa).drew) hR16 (fun h0 hf => by
            obtain ⟨g, e1, e2, e3⟩ := hfa _ (hsa.isSome h0)
            have := hFlt _ hf
            rw [e1] at this
            exact absurd this (by simp; omega))
          obtain ⟨l1, l2⟩ := over_len7 s.D bl R.1
          go_wp2_with fail
          refine wp_region_held_drew (S := fun wx => wx.cell? ⟨wr.heap.size, 1, none⟩ = some (.int .i64 bl)) (by kernel_rfl) (y1) (fun hS => ?_)
          refine tk (i := 0) (oi := ⟨some 140, _, _, _, _, _⟩) (v := ?_) rfl (by kernel_rfl) (fun _ _ _ h => h) (by assumption) (by rfl) (fun w hSw => ?_) ?_; rotate_left; (focus (first | (go_simp; done) | (go_simp; with_reducible rfl))); simp only [Act.put, List.setIfInBounds_toArray, List.set_cons_zero, List.set_cons_succ]
          refine tk (i := 1) (oi := ⟨some 141, _, _, _, _, _⟩) (v := ?_) rfl (by kernel_rfl) (fun _ _ _ h => h) (by assumption) (by rfl) (fun w hSw => ?_) ?_; rotate_left; (focus (first | (go_simp; done) | (go_simp; with_reducible rfl))); simp only [Act.put, List.setIfInBounds_toArray, List.set_cons_zero, List.set_cons_succ]
          refine tk (i := 2) (oi := ⟨some 142, _, _, _, _, _⟩) (v := ?_) rfl (by kernel_rfl) (fun _ _ _ h => h) (by assumption) (by rfl) (fun w hSw => ?_) ?_; rotate_left; (focus (first | (go_simp; done) | (go_simp; with_reducible rfl))); simp only [Act.put, List.setIfInBounds_toArray, List.set_cons_zero, List.set_cons_succ]
          refine tk (i := 3) (oi := ⟨some 143, _, _, _, _, _⟩) (v := ?_) rfl (by kernel_rfl) (fun _ _ _ h => h) (by assumption) (by rfl) (fun w hSw => ?_) ?_; rotate_left; (focus (first | (go_simp; done) | (go_simp; with_reducible rfl))); simp only [Act.put, List.setIfInBounds_toArray, List.set_cons_zero, List.set_cons_succ]
          refine tk (i := 5) (oi := ⟨some 145, _, _, _, _, _⟩) (v := ?_) rfl (by kernel_rfl) (fun _ _ _ h => h) (by assumption) (by rfl) (fun w hSw => ?_) ?_; rotate_left; (focus (first | (go_simp; done) | (go_simp; with_reducible rfl))); simp only [Act.put, List.setIfInBounds_toArray, List.set_cons_zero, List.set_cons_succ]
          refine tk (i := 6) (oi := ⟨some 146, _, _, _, _, _⟩) (v := ?_) rfl (by kernel_rfl) (fun _ _ _ h => h) (by assumption) (by rfl) (fun w hSw => ?_) ?_; rotate_left; (focus (first | (go_simp; done) | (go_simp; with_reducible rfl))); simp only [Act.put, List.setIfInBounds_toArray, List.set_cons_zero, List.set_cons_succ]
          refine tk (i := 7) (oi := ⟨some 147, _, _, _, _, _⟩) (v := ?_) rfl (by kernel_rfl) (fun _ _ _ h => h) (by assumption) (by rfl) (fun w hSw => ?_) ?_; rotate_left; (focus (first | (go_simp; done) | (go_simp; with_reducible rfl))); simp only [Act.put, List.setIfInBounds_toArray, List.set_cons_zero, List.set_cons_succ]
          refine tk (i := 8) (oi := ⟨some 148, _, _, _, _, _⟩) (v := ?_) rfl (by kernel_rfl) (fun _ _ _ h => h) (by assumption) (by rfl) (fun w hSw => ?_) ?_; rotate_left; (focus (first | (go_simp; done) | (go_simp; with_reducible rfl))); simp only [Act.put, List.setIfInBounds_toArray, List.set_cons_zero, List.set_cons_succ]
          refine alone (i := 4) (oi := ⟨some 144, _, _, _, _, _⟩) rfl (by kernel_rfl) (by rfl) (fun K hK => ?_); go_simp
          refine hwd.mono ?_
          rintro e w8 ⟨rfl, F8, hd8, hs8⟩
          have hk8 : Keeps No w w8 := hk0a.drew.trans hs8.keeps (fun i hi h => absurd (hPa.2.2.2.1 i h) (by omega))
          have hb8 := hs8.keeps.blk (show wa.drew.heap[wr.heap.size]? = _ from hba) m3
          obtain ⟨_, z1, z2, z3, z4⟩ := cells5r hb8
          have hrw := rr_over br bw be H s [] w8 bl R.1 (hPa.ref (Keeps.ofDrew hs8.keeps)) hR16 (by omega)
          go_simp
          refine hK.out (fun wx => wx.cell? ⟨wr.heap.size, 1, none⟩ = some (.int .i64 bl)) _ _ (fun _ h => h) (z1) ?_
          clear hK K hS
          intro hS
          refine alone (i := 9) (oi := ⟨some 149, _, _, _, _, _⟩) rfl (by kernel_rfl) (by rfl) (fun K hK => ?_); go_simp
          refine hrw.mono ?_
          rintro e w9 ⟨rfl, H9, hr9, hs9⟩
          have hk9 : Keeps No w w9 := hk8.trans hs9.keeps (fun i hi h => absurd (hPa.2.2.2.2 i h) (by omega))
          have hb9 := hs9.keeps.blk hb8 m4
          obtain ⟨_, u1, u2, u3, u4⟩ := cells5r hb9
          go_simp
          refine hK.out (fun wx => wx.cell? ⟨wr.heap.size, 1, none⟩ = some (.int .i64 bl)) _ _ (fun _ h => h) (u1) ?_
          clear hK K hS
          intro hS
          refine tk (i := 10) (oi := ⟨some 15, _, _, _, _, _⟩) (v := ?_) rfl (by kernel_rfl) (fun _ _ _ h => h) (by assumption) (by rfl) (fun w hSw => ?_) ?_; rotate_left; (focus (first | (go_simp; done) | (go_simp; with_reducible rfl))); simp only [Act.put, List.setIfInBounds_toArray, List.set_cons_zero, List.set_cons_succ]
          refine tk (i := 11) (oi := ⟨some 16, _, _, _, _, _⟩) (v := ?_) rfl (by kernel_rfl) (fun _ _ _ h => h) (by assumption) (by rfl) (fun w hSw => ?_) ?_; rotate_left; (focus (first | (go_simp; done) | (go_simp; with_reducible rfl))); simp only [Act.put, List.setIfInBounds_toArray, List.set_cons_zero, List.set_cons_succ]
          refine wpAnyH_done (by kernel_rfl) ?_ _
          go_wp2_with fail
          go_meet
          exact RCut.mk' (hPa.kept (Keeps.refl No wa).drew) hk0a.drew hba m3 m4 hd8 hs8 hr9 hs9 (by show (s.D.over bl R.1).1.K.length = N; rw [l1]; exact HKl.out) ⟨by show (s.D.over bl R.1).1.W.length ≤ _; omega, by show s.A.length ≤ _; omega, by show s.ver ≤ _; omega, by show s.mark ≤ _; omega⟩
      have e5 : (q == 5) = false := by rw [beq_eq_false_iff_ne]; exact q5
      clear q5
      by_cases q6 : q = 6
      · as_aux_lemma =>
          have e6 : (q == 6) = true := by rw [beq_iff_eq]; exact q6
          clear q6 same
          have hwd := rt_write bd bv bc F s [] w7.drew bl aB nB cB pB (hP7.1.kept (Keeps.refl No w7).drew) (hB.kept hk7.drew) hBn hBd (by omega)
          obtain ⟨l1, l2⟩ := write_len7 s.D bl pB
          have hst := fun wx (hx : Keeps No w wx) => strB (hB.kept hx)
          go_wp2_with fail
          refine wp_region_held_drew (S := fun wx => wx.cell? ⟨wr.heap.size, 1, none⟩ = some (.int .i64 bl) ∧ wx.cell? ⟨wr.heap.size, 3, none⟩ = some (.slice aB nB cB) ∧ (convert 35 9 (.slice aB nB cB)).run Tryd.prog wx = .ok (.string ⟨pB.toArray⟩) wx) (by kernel_rfl) (⟨x1, x3, hst _ hk7.drew⟩) (fun hS => ?_)
          refine tk (i := 0) (oi := ⟨some 152, _, _, _, _, _⟩) (v := ?_) rfl (by kernel_rfl) (fun _ _ _ h => h) (by assumption) (by rfl) (fun w hSw => ?_) ?_; rotate_left; (focus (first | (go_simp; done) | (go_simp; with_reducible rfl))); simp only [Act.put, List.setIfInBounds_toArray, List.set_cons_zero, List.set_cons_succ]
          refine tk (i := 1) (oi := ⟨some 153, _, _, _, _, _⟩) (v := ?_) rfl (by kernel_rfl) (fun _ _ _ h => h) (by assumption) (by rfl) (fun w hSw => ?_) ?_; rotate_left; (focus (first | (go_simp; done) | (go_simp; with_reducible rfl))); simp only [Act.put, List.setIfInBounds_toArray, List.set_cons_zero, List.set_cons_succ]
          refine tk (i := 2) (oi := ⟨some 154, _, _, _, _, _⟩) (v := ?_) rfl (by kernel_rfl) (fun _ _ _ h => h) (by assumption) (by rfl) (fun w hSw => ?_) ?_; rotate_left; (focus (first | (go_simp; done) | (go_simp; with_reducible rfl))); simp only [Act.put, List.setIfInBounds_toArray, List.set_cons_zero, List.set_cons_succ]
          refine tk (i := 3) (oi := ⟨some 155, _, _, _, _, _⟩) (v := ?_) rfl (by kernel_rfl) (fun _ _ _ h => h) (by assumption) (by rfl) (fun w hSw => ?_) ?_; rotate_left; (focus (first | (go_simp; done) | (go_simp; with_reducible rfl))); simp only [Act.put, List.setIfInBounds_toArray, List.set_cons_zero, List.set_cons_succ]
          refine tk (i := 4) (oi := ⟨some 156, _, _, _, _, _⟩) (v := ?_) rfl (by kernel_rfl) (fun _ _ _ h => h) (by assumption) (by rfl) (fun w hSw => ?_) ?_; rotate_left; (focus (first | (go_simp; done) | (go_simp; with_reducible rfl))); simp only [Act.put, List.setIfInBounds_toArray, List.set_cons_zero, List.set_cons_succ]
          refine tk (i := 6) (oi := ⟨some 158, _, _, _, _, _⟩) (v := ?_) rfl (by kernel_rfl) (fun _ _ _ h => h) (by assumption) (by rfl) (fun w hSw => ?_) ?_; rotate_left; (focus (first | (go_simp; done) | (go_simp; with_reducible rfl))); simp only [Act.put, List.setIfInBounds_toArray, List.set_cons_zero, List.set_cons_succ]
          refine tk (i := 7) (oi := ⟨some 159, _, _, _, _, _⟩) (v := ?_) rfl (by kernel_rfl) (fun _ _ _ h => h) (by assumption) (by rfl) (fun w hSw => ?_) ?_; rotate_left; (focus (first | (go_simp; done) | (go_simp; with_reducible rfl))); simp only [Act.put, List.setIfInBounds_toArray, List.set_cons_zero, List.set_cons_succ]
          refine tk (i := 8) (oi := ⟨some 160, _, _, _, _, _⟩) (v := ?_) rfl (by kernel_rfl) (fun _ _ _ h => h) (by assumption) (by rfl) (fun w hSw => ?_) ?_; rotate_left; (focus (first | (go_simp; done) | (go_simp; with_reducible rfl))); simp only [Act.put, List.setIfInBounds_toArray, List.set_cons_zero, List.set_cons_succ]
          refine tk (i := 9) (oi := ⟨some 161, _, _, _, _, _⟩) (v := ?_) rfl (by kernel_rfl) (fun _ _ _ h => h) (by assumption) (by rfl) (fun w hSw => ?_) ?_; rotate_left; (focus (first | (go_simp; done) | (go_simp; with_reducible rfl))); simp only [Act.put, List.setIfInBounds_toArray, List.set_cons_zero, List.set_cons_succ]
          refine tk (i := 10) (oi := ⟨some 162, _, _, _, _, _⟩) (v := ?_) rfl (by kernel_rfl) (fun _ _ _ h => h) (by assumption) (by rfl) (fun w hSw => ?_) ?_; rotate_left; (focus (first | (go_simp; done) | (go_simp; with_reducible rfl))); simp only [Act.put, List.setIfInBounds_toArray, List.set_cons_zero, List.set_cons_succ]
          refine tk (i := 11) (oi := ⟨some 163, _, _, _, _, _⟩) (v := ?_) rfl (by kernel_rfl) (fun _ _ _ h => h) (by assumption) (by rfl) (fun w hSw => ?_) ?_; rotate_left; (focus (first | (go_simp; done) | (go_simp; with_reducible rfl))); simp only [Act.put, List.setIfInBounds_toArray, List.set_cons_zero, List.set_cons_succ]
          refine alone (i := 5) (oi := ⟨some 157, _, _, _, _, _⟩) rfl (by kernel_rfl) (by rfl) (fun K hK => ?_); go_simp
          refine hwd.mono ?_
          rintro e w8 ⟨rfl, F8, hd8, hs8⟩
          have hk8 : Keeps No w w8 := hk7.drew.trans hs8.keeps (fun i hi h => absurd (hP7.2.2.2.1 i h) (by omega))
          have hb8 := hs8.keeps.blk (show w7.drew.heap[wr.heap.size]? = _ from hbN) m3
          obtain ⟨_, z1, z2, z3, z4⟩ := cells5r hb8
          have hrw := rr_write br bw be H s [] w8 bl pB (hP7.ref (Keeps.ofDrew hs8.keeps)) (by have := HlB.out; omega) (by omega)
          go_simp
          refine hK.out (fun wx => wx.cell? ⟨wr.heap.size, 1, none⟩ = some (.int .i64 bl) ∧ wx.cell? ⟨wr.heap.size, 3, none⟩ = some (.slice aB nB cB) ∧ (convert 35 9 (.slice aB nB cB)).run Tryd.prog wx = .ok (.string ⟨pB.toArray⟩) wx) _ _ (fun _ h => h) (⟨z1, z3, hst _ hk8⟩) ?_
          clear hK K hS
          intro hS
          refine alone (i := 12) (oi := ⟨some 164, _, _, _, _, _⟩) rfl (by kernel_rfl) (by rfl) (fun K hK => ?_); go_simp
          refine hrw.mono ?_
          rintro e w9 ⟨rfl, H9, hr9, hs9⟩
          have hk9 : Keeps No w w9 := hk8.trans hs9.keeps (fun i hi h => absurd (hP7.2.2.2.2 i h) (by omega))
          have hb9 := hs9.keeps.blk hb8 m4
          obtain ⟨_, u1, u2, u3, u4⟩ := cells5r hb9
          go_simp
          refine hK.out (fun wx => wx.cell? ⟨wr.heap.size, 1, none⟩ = some (.int .i64 bl) ∧ wx.cell? ⟨wr.heap.size, 3, none⟩ = some (.slice aB nB cB) ∧ (convert 35 9 (.slice aB nB cB)).run Tryd.prog wx = .ok (.string ⟨pB.toArray⟩) wx) _ _ (fun _ h => h) (⟨u1, u3, hst _ hk9⟩) ?_
          clear hK K hS
          intro hS
          refine tk (i := 13) (oi := ⟨some 15, _, _, _, _, _⟩) (v := ?_) rfl (by kernel_rfl) (fun _ _ _ h => h) (by assumption) (by rfl) (fun w hSw => ?_) ?_; rotate_left; (focus (first | (go_simp; done) | (go_simp; with_reducible rfl))); simp only [Act.put, List.setIfInBounds_toArray, List.set_cons_zero, List.set_cons_succ]
          refine tk (i := 14) (oi := ⟨some 16, _, _, _, _, _⟩) (v := ?_) rfl (by kernel_rfl) (fun _ _ _ h => h) (by assumption) (by rfl) (fun w hSw => ?_) ?_; rotate_left; (focus (first | (go_simp; done) | (go_simp; with_reducible rfl))); simp only [Act.put, List.setIfInBounds_toArray, List.set_cons_zero, List.set_cons_succ]
          refine wpAnyH_done (by kernel_rfl) ?_ _
          go_wp2_with fail
          go_meet
          exact RCut.mk' (hP7.kept (Keeps.refl No w7).drew) hk7.drew hbN m3 m4 hd8 hs8 hr9 hs9 (by show (s.D.write bl pB).1.K.length = N; rw [l1]; exact HKl.out) ⟨by show (s.D.write bl pB).1.W.length ≤ _; omega, by show s.A.length ≤ _; omega, by show s.ver ≤ _; omega, by show s.mark ≤ _; omega⟩
      have e6 : (q == 6) = false := by rw [beq_eq_false_iff_ne]; exact q6
      clear q6
      by_cases q7 : q = 7
      · as_aux_lemma =>
          have e7 : (q == 7) = true := by rw [beq_iff_eq]; exact q7
          clear q7 same
          have hwd := rt_seal bd bv bc F s [] w7 k1t ⟨#[]⟩ none 0 0 [] hP7.1 (Sl.none _) (by omega) (by omega)
          have l3 := sealA_len7 s.A [] k1t ⟨#[]⟩ []
          rw [show (keyCells k1t).toArray = #[.int .i64 1, .int .i64 0, .int .i64 0] from rfl] at hwd
          go_wp2_with fail
          refine hwd.mono ?_
          rintro e w8 ⟨⟨v8, rfl⟩, F8, hd8, hs8⟩
          clear hwd
          have hrw := rr_seal br bw be H s [] w8 k1t ⟨#[]⟩ [] (hP7.ref hs8.keeps) (by simp) (Nat.zero_le _) (by omega)
          rw [show (keyCells k1t).toArray = #[.int .i64 1, .int .i64 0, .int .i64 0] from rfl, show ([] : List UInt8).toArray = #[] from rfl] at hrw
          go_wp2_with fail
          refine hrw.mono ?_
          rintro e w9 ⟨⟨v9, rfl⟩, H9, hr9, hs9⟩
          go_wp2_with fail
          go_meet
          exact RCut.mk' hP7 hk7 hbN m3 m4 hd8 hs8 hr9 hs9 HKl.out ⟨by show s.D.W.length ≤ _; omega, by show (sealA s.A [] k1t ⟨#[]⟩ []).1.length ≤ _; omega, by show s.ver ≤ _; omega, by show s.mark ≤ _; omega⟩
      have e7 : (q == 7) = false := by rw [beq_eq_false_iff_ne]; exact q7
      clear q7
      go_wp2_with fail
      go_meet
      exact same
    case rest =>
      as_aux_lemma =>
        clear hP7 m3 m4 hbN x0 x1 x2 x3 x4 hBd hKd hKr hkr hkN hk7 HKl hWl hAl hvl hml hzN'
        obtain ⟨s, F, H, e, rfl, rfl, hP, hKl, ⟨hWl, hAl, hvl, hml⟩, hbO, m3, m4, hk⟩ := hcut
        have HKl := Lib.hid hKl
        clear hKl
        generalize wr.heap.size = gO at hbO m3 m4 ⊢
        obtain ⟨R, hR⟩ : ∃ R, rget s [] = R := ⟨_, rfl⟩
        have hrd := rget_any bd bv bc F s [] _ hP.1 (by omega) (by omega) (by omega)
        rw [hR] at hrd
        go_wp2_with fail
        refine hrd.mono ?_
        rintro e1 w8 ⟨v8, rfl, hk8, hown8⟩
        clear hrd
        have hP8 := hP.kept hk8
        have hrr := rrget_any br bw be H s [] w8 hP8.2.1 (by omega) (Nat.zero_le _) (by omega) (by omega)
        rw [hR] at hrr
        obtain ⟨a8, c8, rfl, hs8, _⟩ := Sl.ofOwn hown8
        clear hR hown8
        go_wp2_with fail
        refine hrr.mono ?_
        rintro e1 w9 ⟨rfl, hk9⟩
        clear hrr
        have hP9 := hP8.kept hk9
        have hs9 := hs8.kept hk9
        have hk09 := (hk.transNo hk8).transNo hk9
        have hcr := fun wy (hy : Keeps No w9 wy) => (cells2 (hy.blk hP9.2.1.2.1 (not_No _))).1
        have hst := fun wy (hy : Keeps No w9 wy) => strB (hs9.kept hy)
        go_wp2_with fail
        refine wp_region_held_drew (S := fun wy => Keeps No w9 wy ∧ wy.cell? ⟨be, 0, none⟩ = some (.int .i64 (s.ver : Int)) ∧ (convert 35 9 (.slice a8 R.1.length c8)).run Tryd.prog wy = .ok (.string ⟨R.1.toArray⟩) wy) (by kernel_rfl) (⟨(Keeps.refl _ _).drew, hcr _ (Keeps.refl _ _).drew, hst _ (Keeps.refl _ _).drew⟩) (fun hS => ?_)
        refine tk (i := 0) (oi := ⟨some 187, _, _, _, _, _⟩) (v := ?_) rfl (by kernel_rfl) (fun _ _ _ h => h) (by assumption) (by rfl) (fun w hSw => ?_) ?_; rotate_left; (focus (first | (go_simp; done) | (go_simp; with_reducible rfl))); simp only [Act.put, List.setIfInBounds_toArray, List.set_cons_zero, List.set_cons_succ]
        refine tk (i := 1) (oi := ⟨some 188, _, _, _, _, _⟩) (v := ?_) rfl (by kernel_rfl) (fun _ _ _ h => h) (by assumption) (by rfl) (fun w hSw => ?_) ?_; rotate_left; (focus (first | (go_simp; done) | (go_simp; with_reducible rfl))); simp only [Act.put, List.setIfInBounds_toArray, List.set_cons_zero, List.set_cons_succ]
        refine tk (i := 2) (oi := ⟨some 189, _, _, _, _, _⟩) (v := ?_) rfl (by kernel_rfl) (fun _ _ _ h => h) (by assumption) (by rfl) (fun w hSw => ?_) ?_; rotate_left; (focus (first | (go_simp; done) | (go_simp; with_reducible rfl))); simp only [Act.put, List.setIfInBounds_toArray, List.set_cons_zero, List.set_cons_succ]
        refine tk (i := 3) (oi := ⟨some 190, _, _, _, _, _⟩) (v := ?_) rfl (by kernel_rfl) (fun _ _ _ h => h) (by assumption) (by rfl) (fun w hSw => ?_) ?_; rotate_left; (focus (first | (go_simp; done) | (go_simp; with_reducible rfl))); simp only [Act.put, List.setIfInBounds_toArray, List.set_cons_zero, List.set_cons_succ]
        refine tk (i := 4) (oi := ⟨some 191, _, _, _, _, _⟩) (v := ?_) rfl (by kernel_rfl) (fun _ _ _ h => h) (by assumption) (by rfl) (fun w hSw => ?_) ?_; rotate_left; (focus (first | (go_simp; done) | (go_simp; with_reducible rfl))); simp only [Act.put, List.setIfInBounds_toArray, List.set_cons_zero, List.set_cons_succ]
        refine tk (i := 5) (oi := ⟨some 192, _, _, _, _, _⟩) (v := ?_) rfl (by kernel_rfl) (fun _ _ _ h => h) (by assumption) (by rfl) (fun w hSw => ?_) ?_; rotate_left; (focus (first | (go_simp; done) | (go_simp; with_reducible rfl))); simp only [Act.put, List.setIfInBounds_toArray, List.set_cons_zero, List.set_cons_succ]
        refine tk (i := 6) (oi := ⟨some 193, _, _, _, _, _⟩) (v := ?_) rfl (by kernel_rfl) (fun _ _ _ h => h) (by assumption) (by rfl) (fun w hSw => ?_) ?_; rotate_left; (focus (first | (go_simp; done) | (go_simp; with_reducible rfl))); simp only [Act.put, List.setIfInBounds_toArray, List.set_cons_zero, List.set_cons_succ]
        refine tk (i := 7) (oi := ⟨some 194, _, _, _, _, _⟩) (v := ?_) rfl (by kernel_rfl) (fun _ _ _ h => h) (by assumption) (by rfl) (fun w hSw => ?_) ?_; rotate_left; (focus (first | (go_simp; done) | (go_simp; with_reducible rfl))); simp only [Act.put, List.setIfInBounds_toArray, List.set_cons_zero, List.set_cons_succ]
        refine tk (i := 8) (oi := ⟨some 195, _, _, _, _, _⟩) (v := ?_) rfl (by kernel_rfl) (fun _ _ _ h => h) (by assumption) (by rfl) (fun w hSw => ?_) ?_; rotate_left; (focus (first | (go_simp; done) | (go_simp; with_reducible rfl))); simp only [Act.put, List.setIfInBounds_toArray, List.set_cons_zero, List.set_cons_succ]
        refine tk (i := 9) (oi := ⟨some 196, _, _, _, _, _⟩) (v := ?_) rfl (by kernel_rfl) (fun _ _ _ h => h) (by assumption) (by rfl) (fun w hSw => ?_) ?_; rotate_left; (focus (first | (go_simp; done) | (go_simp; with_reducible rfl))); simp only [Act.put, List.setIfInBounds_toArray, List.set_cons_zero, List.set_cons_succ]
        refine tk (i := 10) (oi := ⟨some 197, _, _, _, _, _⟩) (v := ?_) rfl (by kernel_rfl) (fun _ _ _ h => h) (by assumption) (by rfl) (fun w hSw => ?_) ?_; rotate_left; (focus (first | (go_simp; done) | (go_simp; with_reducible rfl))); simp only [Act.put, List.setIfInBounds_toArray, List.set_cons_zero, List.set_cons_succ]
        refine tk (i := 11) (oi := ⟨some 198, _, _, _, _, _⟩) (v := ?_) rfl (by kernel_rfl) (fun _ _ _ h => h) (by assumption) (by rfl) (fun w hSw => ?_) ?_; rotate_left; (focus (first | (go_simp; done) | (go_simp; with_reducible rfl))); simp only [Act.put, List.setIfInBounds_toArray, List.set_cons_zero, List.set_cons_succ]
        refine tk (i := 12) (oi := ⟨some 199, _, _, _, _, _⟩) (v := ?_) rfl (by kernel_rfl) (fun _ _ _ h => h) (by assumption) (by rfl) (fun w hSw => ?_) ?_; rotate_left; (focus (first | (go_simp; done) | (go_simp; with_reducible rfl))); simp only [Act.put, List.setIfInBounds_toArray, List.set_cons_zero, List.set_cons_succ]
        refine tk (i := 13) (oi := ⟨some 200, _, _, _, _, _⟩) (v := ?_) rfl (by kernel_rfl) (fun _ _ _ h => h) (by assumption) (by rfl) (fun w hSw => ?_) ?_; rotate_left; (focus (first | (go_simp; done) | (go_simp; with_reducible rfl))); simp only [Act.put, List.setIfInBounds_toArray, List.set_cons_zero, List.set_cons_succ]
        refine tk (i := 14) (oi := ⟨some 201, _, _, _, _, _⟩) (v := ?_) rfl (by kernel_rfl) (fun _ _ _ h => h) (by assumption) (by rfl) (fun w hSw => ?_) ?_; rotate_left; (focus (first | (go_simp; done) | (go_simp; with_reducible rfl))); simp only [Act.put, List.setIfInBounds_toArray, List.set_cons_zero, List.set_cons_succ]
        refine tk (i := 15) (oi := ⟨some 202, _, _, _, _, _⟩) (v := ?_) rfl (by kernel_rfl) (fun _ _ _ h => h) (by assumption) (by rfl) (fun w hSw => ?_) ?_; rotate_left; (focus (first | (go_simp; done) | (go_simp; with_reducible rfl))); simp only [Act.put, List.setIfInBounds_toArray, List.set_cons_zero, List.set_cons_succ]
        refine tk (i := 17) (oi := ⟨some 204, _, _, _, _, _⟩) (v := ?_) rfl (by kernel_rfl) (fun _ _ _ h => h) (by assumption) (by rfl) (fun w hSw => ?_) ?_; rotate_left; (focus (first | (go_simp; done) | (go_simp; with_reducible rfl))); simp only [Act.put, List.setIfInBounds_toArray, List.set_cons_zero, List.set_cons_succ]
        refine tk (i := 18) (oi := ⟨some 205, _, _, _, _, _⟩) (v := ?_) rfl (by kernel_rfl) (fun _ _ _ h => h) (by assumption) (by rfl) (fun w hSw => ?_) ?_; rotate_left; (focus (first | (go_simp; done) | (go_simp; with_reducible rfl))); simp only [Act.put, List.setIfInBounds_toArray, List.set_cons_zero, List.set_cons_succ]
        refine tk (i := 19) (oi := ⟨some 206, _, _, _, _, _⟩) (v := ?_) rfl (by kernel_rfl) (fun _ _ _ h => h) (by assumption) (by rfl) (fun w hSw => ?_) ?_; rotate_left; (focus (first | (go_simp; done) | (go_simp; with_reducible rfl))); simp only [Act.put, List.setIfInBounds_toArray, List.set_cons_zero, List.set_cons_succ]
        refine tk (i := 20) (oi := ⟨some 207, _, _, _, _, _⟩) (v := ?_) rfl (by kernel_rfl) (fun _ _ _ h => h) (by assumption) (by rfl) (fun w hSw => ?_) ?_; rotate_left; (focus (first | (go_simp; done) | (go_simp; with_reducible rfl))); simp only [Act.put, List.setIfInBounds_toArray, List.set_cons_zero, List.set_cons_succ]
        refine alone (i := 16) (oi := ⟨some 203, _, _, _, _, _⟩) rfl (by kernel_rfl) (by rfl) (fun K hK => ?_); go_simp
        refine (rversion_any bc _ _ _ (hP9.1.kept hS.1).2.1).mono ?_
        rintro e1 w10 ⟨rfl, rfl⟩
        go_simp
        refine hK.out (fun wy => Keeps No w9 wy ∧ wy.cell? ⟨be, 0, none⟩ = some (.int .i64 (s.ver : Int)) ∧ (convert 35 9 (.slice a8 R.1.length c8)).run Tryd.prog wy = .ok (.string ⟨R.1.toArray⟩) wy) _ _ (fun _ h => h) (hS) ?_
        clear hK K hS
        intro hS
        refine tk (i := 21) (oi := ⟨some 208, _, _, _, _, _⟩) (v := ?_) rfl (by kernel_rfl) (fun _ _ _ h => h) (by assumption) (by rfl) (fun w hSw => ?_) ?_; rotate_left; (focus (first | (go_simp; done) | (go_simp; with_reducible rfl))); simp only [Act.put, List.setIfInBounds_toArray, List.set_cons_zero, List.set_cons_succ]
        refine tk (i := 22) (oi := ⟨some 209, _, _, _, _, _⟩) (v := ?_) rfl (by kernel_rfl) (fun _ _ _ h => h) (by assumption) (by rfl) (fun w hSw => ?_) ?_; rotate_left; (focus (first | (go_simp; done) | (go_simp; with_reducible rfl))); simp only [Act.put, List.setIfInBounds_toArray, List.set_cons_zero, List.set_cons_succ]
        refine wpAnyH_done (by kernel_rfl) ?_ _
        go_wp2_with fail
        go_roundg (n1 - (j + 1))
        case measure => have := Hq.out; omega
        case rel => exact ⟨j + 1, s, F, H, by omega, rfl, by go_num, hP9.kept hS.1, HKl, ⟨by omega, by omega, by omega, by omega⟩, hk09.transNo hS.1⟩
theorem rootPlays_walk (bs : Int) (a1 : Option Addr) (n1 c1 : Nat) (L : List OPR) (w : World) (hbs : (Lit.int .i64 bs).wf = true)
    (hs1 : SlK w 5 a1 n1 c1 (L.map oprV)) (hL : ∀ o ∈ L, OprOk w o) :
    Calls Tryd.prog 10 #[.int .i64 bs, .slice a1 n1 c1] w fun e w' => e = .returned (.bool true) ∧ Keeps No w w' := rootPlays_any bs a1 n1 c1 L w hbs hs1 hL
end Go.Proofs.YthimnkmoeonheaaDoor
