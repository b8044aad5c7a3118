/- The walk of the law DevicePlays. -/
import Derived.Test.YthimnkmoeonheaaLawFourA
namespace Go.Proofs.Ythimnkmoeonheaa
open Go.RowKit
set_option linter.unusedSimpArgs false
set_option linter.unusedVariables false

/-- The device and the document's, alike, apart from each other. -/
def Pair (B bd br : Nat) (Fd Fr : Nat → Prop) (D : DS) (w : World) : Prop :=
  Dv w bd Fd D ∧ Rv w br Fr D ∧ (∀ i, Fd i → ¬ Fr i) ∧ (∀ i, Fd i → B ≤ i) ∧ (∀ i, Fr i → B ≤ i)
theorem Pair.kept {B bd br : Nat} {Fd Fr : Nat → Prop} {D : DS} {w w' : World} (h : Pair B bd br Fd Fr D w) (k : Keeps No w w') : Pair B bd br Fd Fr D w' :=
  ⟨h.1.kept k, h.2.1.kept k, h.2.2⟩
theorem Pair.keep {B bd br : Nat} {Fd Fr S : Nat → Prop} {D : DS} {w w' : World} (h : Pair B bd br Fd Fr D w) (k : Keeps S w w') (h1 : ∀ i, Fd i → ¬ S i) (h2 : ∀ i, Fr i → ¬ S i) : Pair B bd br Fd Fr D w' :=
  ⟨h.1.keep k h1, h.2.1.keep k h2, h.2.2⟩
theorem Pair.step {B bd br : Nat} {Fd Fr Fd' Fr' : Nat → Prop} {D D' : DS} {w w1 w2 : World} (h : Pair B bd br Fd Fr D w) (hB : B ≤ w.heap.size) (hd : Dv w1 bd Fd' D') (s1 : Step Fd Fd' w w1) (hr : Rv w2 br Fr' D') (s2 : Step Fr Fr' w1 w2) : Pair B bd br Fd' Fr' D' w2 := by
  obtain ⟨h1, h2, h3, h4, h5⟩ := h
  have hz := s1.keeps.size
  have a1 := s1.apart h3 h2.lt
  have a2 : ∀ i, Fr' i → ¬ Fd' i := s2.apart (fun i hr hd => a1 i hd hr) hd.lt
  exact ⟨hd.keep s2.keeps (fun i hi hr => a1 i hi hr), hr, fun i hd hr => a2 i hr hd, fun i hi => (s1.fresh i hi).elim (h4 i) (fun h => by omega), fun i hi => (s2.fresh i hi).elim (h5 i) (fun h => by omega)⟩
/-- A block that lies apart from both. -/
theorem Step.notIn {F F' : Nat → Prop} {w w' : World} (s : Step F F' w w') {g : Nat} (hg : ¬ F g) (hl : g < w.heap.size) : ¬ F' g := fun h => (s.fresh g h).elim hg (fun h => by omega)

def PlayCut (w : World) (bd br n j gO : Nat) (opc : Array Value) (g7 nB c7 : Nat) (q : List UInt8) (s12 s13 : Value) (wx : World) : Prop :=
  ∃ (D : DS) (Fd Fr : Nat → Prop) (e : Int), s12 = .int .i64 e ∧ s13 = .int .i64 e ∧ Pair w.heap.size bd br Fd Fr D wx ∧ D.K.length = n ∧ D.W.length ≤ j + 1 ∧ wx.heap[gO]? = some (.cells opc 33 (0, 0)) ∧
    wx.ownsRow 0 5 1 (.slice (some ⟨g7, 0, none⟩) nB c7) nB (q.map byteV) ∧ ¬ Fd g7 ∧ ¬ Fr g7 ∧ ¬ Fd gO ∧ ¬ Fr gO ∧ Keeps No w wx
/-- Both acts are done: what the cut asks. -/
theorem PlayCut.mk' {w W w1 w2 : World} {bd br n j gO g7 nB c7 : Nat} {opc : Array Value} {q : List UInt8} {Fd Fr Fd' Fr' : Nat → Prop} {D D' : DS} {e : Int} (hP : Pair w.heap.size bd br Fd Fr D W) (hk : Keeps No w W)
    (hO : W.heap[gO]? = some (.cells opc 33 (0, 0))) (h7 : W.ownsRow 0 5 1 (.slice (some ⟨g7, 0, none⟩) nB c7) nB (q.map byteV)) (n1 : ¬ Fd g7) (n2 : ¬ Fr g7) (n3 : ¬ Fd gO) (n4 : ¬ Fr gO)
    (hd : Dv w1 bd Fd' D') (s1 : Step Fd Fd' W w1) (hr : Rv w2 br Fr' D') (s2 : Step Fr Fr' w1 w2) (hK : D'.K.length = n) (hW : D'.W.length ≤ j + 1) : PlayCut w bd br n j gO opc g7 nB c7 q (.int .i64 e) (.int .i64 e) w2 := by
  have l7 := (h7.lt g7 rfl).2
  have lO := (Array.getElem?_eq_some_iff.1 hO).1
  have hz := s1.keeps.size
  refine ⟨D', Fd', Fr', e, rfl, rfl, hP.step hk.size hd s1 hr s2, hK, hW, s2.keeps.blk (s1.keeps.blk hO n3) n4, own_keepB (own_keepB h7 s1.keeps n1) s2.keeps n2, s1.notIn n1 l7, s2.notIn n2 (by omega), s1.notIn n3 lO, s2.notIn n4 (by omega), ?_⟩
  exact (hk.trans s1.keeps (fun i hi h => absurd (hP.2.2.2.1 i h) (by omega))).trans s2.keeps (fun i hi h => absurd (hP.2.2.2.2 i h) (by omega))

theorem write_len (D : DS) (i : Int) (p : List UInt8) : (D.write i p).1.K.length = D.K.length ∧ (D.write i p).1.W.length ≤ D.W.length + 1 := by
  unfold DS.write
  split
  · split <;> simp
  · simp
theorem sync_len (D : DS) : D.sync.1.K.length = D.K.length ∧ D.sync.1.W.length ≤ D.W.length + 1 := by
  unfold DS.sync
  split <;> simp [keepW_len]
theorem over_len (D : DS) (i : Int) (p : List UInt8) : (D.over i p).1.K.length = D.K.length ∧ (D.over i p).1.W.length ≤ D.W.length + 1 := by
  unfold DS.over
  split
  · have := List.length_filter_le (fun w : WR => !decide (w.1 = i.toNat)) D.W
    exact ⟨by simp, Nat.le_succ_of_le this⟩
  · simp
theorem crash_len (D : DS) (keep : List Bool) : (D.crash keep).K.length = D.K.length ∧ (D.crash keep).W.length ≤ D.W.length + 1 := by
  unfold DS.crash
  simp [crashW_len]

/-- 'b[j] ^= 0xff' for every byte of an owned row. -/
theorem byteV_xor (x : UInt8) : byteV (x ^^^ 255) = .int .u8 (bits .xor .u8 (x.toNat : Int) 255) := by unfold byteV; rw [← xor_u8]; rfl

set_option maxRecDepth 100000 in
set_option maxHeartbeats 16000000 in
theorem devicePlays_any (bs : Int) (a1 : Option Addr) (n1 c1 : Nat) (L : List OPD) (w : World) (hbs : (Lit.int .i64 bs).wf = true)
    (hs1 : SlK w 4 a1 n1 c1 (L.map opdV)) (hL : ∀ o ∈ L, OpdOk w o) :
    Calls Try.prog 5 #[.int .i64 bs, .slice a1 n1 c1] w fun e w' => e = .returned (.bool true) ∧ Keeps No w w' := by
  have hlen : L.length = n1 := by simpa using hs1.len
  have hwm := hs1.max
  have hwl := hs1.le
  unfold maxLen at hwm
  have Hlen := Lib.hid hlen
  have HL := Lib.hid hL
  obtain ⟨m0, hm0, hm0', hm12⟩ := umod bs 12 (by omega)
  obtain ⟨N, hN⟩ : ∃ N : Nat, N = 1 + m0 := ⟨_, rfl⟩
  have hNi : (1 : Int) + (m0 : Int) = (N : Int) := by omega
  have hN1 : 1 ≤ N := by omega
  have hN12 : N ≤ 12 := by omega
  clear hlen hL hbs
  go_enter Try.func5, Try.ntmps5
  go_wp2_with fail
  refine (first04_any _).mono ?_
  rintro e w1 ⟨rfl, hk1⟩
  have hz1 := hk1.size
  clear hN
  go_wp2_with fail
  refine (d_new N w1 (by omega) (by omega)).mono ?_
  rintro e w2 ⟨bd, F, rfl, hd2, hF, hk2⟩
  have hk02 := hk1.transNo hk2
  clear hNi hm0 hm0'
  go_wp2_with fail
  refine (r_new N w2 (by omega) (by omega)).mono ?_
  rintro e w3 ⟨br, G, rfl, hr3, hG, hk3⟩
  have hk03 := hk02.transNo hk3
  have hP3 : Pair w.heap.size bd br F G ⟨List.replicate N (full []), [], none⟩ w3 := ⟨hd2.kept hk3, hr3, fun i hf hg => by have := hd2.lt i hf; have := hG i hg; omega, fun i h => Nat.le_trans hz1 (hF i h), fun i h => Nat.le_trans hk02.size (hG i h)⟩
  have hKl : (⟨List.replicate N (full []), [], none⟩ : DS).K.length = N := by simp
  have hWl : (⟨List.replicate N (full []), [], none⟩ : DS).W.length ≤ 0 := by simp
  generalize (⟨List.replicate N (full []), [], none⟩ : DS) = D3 at hP3 hKl hWl
  clear hd2 hr3
  have hfr : ∀ (G : Nat → Prop), (∀ i, G i → w.heap.size ≤ i) → ∀ (a : Option Addr) (n c : Nat) (xs : List Value), Sl w a n c xs → 0 < n → ¬ G (a.getD default).block := fun G hG a n c xs hs h0 h => by
    have := hs.lt h0
    have := hG _ h
    omega
  have Hfr := Lib.hid hfr
  clear hfr
  have HKl := Lib.hid hKl
  clear hKl
  go_wp2_with fail
  go_loopg [40] n1 (fun q i wr => ∃ (j : Nat) (D : DS) (Fd Fr : Nat → Prop), j ≤ n1 ∧ q = n1 - j ∧ i = .int .i64 (j : Int) ∧ Pair w.heap.size bd br Fd Fr D wr ∧ Hid (D.K.length = N) ∧ D.W.length ≤ j ∧ Keeps No w wr)
  case atStart => exact ⟨0, D3, F, G, Nat.zero_le _, rfl, rfl, hP3, HKl, hWl, hk03⟩
  case round =>
    clear hP3 hWl HKl
    obtain ⟨j, D, Fd, Fr, hj, hq, rfl, hP, HKl, hWl, hkr⟩ := hrel
    have Hq := Lib.hid hq
    clear hq
    have finish : ∀ wx, Pair w.heap.size bd br Fd Fr D wx → Calls Try.prog 27 #[.pointer (some ⟨bd, 0, none⟩)] wx fun e w' => e = .returned (.int .i64 (N : Int)) ∧ wx = w' := fun wx h => by
      have := dblocks_any bd Fd D wx h.1
      rw [HKl.out] at this
      exact this
    have Finish := Lib.hid finish
    clear finish
    by_cases hlt : j < n1
    case neg =>
      go_wp2_with fail
      refine (Finish.out _ hP).mono ?_
      rintro e w4 ⟨rfl, rfl⟩
      go_wp2_with fail
      go_ret
      exact ⟨rfl, hkr⟩
    have hlt' : j < L.length := by rw [Hlen.out]; exact hlt
    have hsr := hs1.kept hkr
    have hix := hsr.ix (P := Try.prog) Try.underlying23 opd_size hlt .i64
    obtain ⟨hld, _⟩ := hsr.load (P := Try.prog) (ty := 33) Try.underlying33 rfl opd_size hlt
    obtain ⟨o, ho⟩ : ∃ o, o = L[j] := ⟨_, rfl⟩
    have hxc : (L.map opdV).getD j [] = opdV o := by rw [ho]; simp [hlt']
    obtain ⟨⟨hB, hBn⟩, hKp, hKn⟩ := HL.out o (by rw [ho]; exact List.getElem_mem hlt')
    obtain ⟨⟨kd, hkd⟩, ⟨iv, hiv⟩, ⟨aB, nB, cB, pB⟩, ⟨aK, nK, cK, pK⟩⟩ := o
    rw [hxc, show (opdV (⟨kd, hkd⟩, ⟨iv, hiv⟩, ⟨aB, nB, cB, pB⟩, ⟨aK, nK, cK, pK⟩)).toArray = #[.int .i64 kd, .int .i64 iv, .slice aB nB cB, .slice aK nK cK] from rfl] at hld
    simp only at hB hBn hKp hKn
    have hlB : pB.length = nB := by simpa using hB.len
    have HlB := Lib.hid hlB
    have hivw := wf_i64_iff hiv
    clear hxc ho hlB hsr hkd
    go_upto_region 9 with (refine wpList_loadV (op := ⟨some 44, _, _, _, _, _⟩) rfl 33 (.tmp 43) rfl _ rfl _ hld ?_)
    have hbN := heap_alloc_new wr (.cells #[.int .i64 kd, .int .i64 iv, .slice aB nB cB, .slice aK nK cK] 33)
    have hkN : Keeps No wr (wr.alloc (.cells #[.int .i64 kd, .int .i64 iv, .slice aB nB cB, .slice aK nK cK] 33)) := (Keeps.refl No wr).alloc _
    have hzN : (wr.alloc (.cells #[.int .i64 kd, .int .i64 iv, .slice aB nB cB, .slice aK nK cK] 33)).heap.size = wr.heap.size + 1 := by simp
    generalize (wr.alloc (.cells #[.int .i64 kd, .int .i64 iv, .slice aB nB cB, .slice aK nK cK] 33)) = w5 at hbN hkN hzN ⊢
    obtain ⟨x0, x1, x2, x3⟩ := opd_cells hbN
    have hk5 := hkr.transNo hkN
    have hP5 := hP.kept hkN
    have HzN := Lib.hid hzN
    have hzN' : wr.heap.size < w5.heap.size := by omega
    clear hld hix hzN
    by_cases h100 : 100 ≤ j
    · have hd100 : decide ((100 : Int) ≤ (j : Int)) = true := by simp; omega
      go_wp2_with fail
      refine (Finish.out _ hP5).mono ?_
      rintro e w4 ⟨rfl, rfl⟩
      go_wp2_with fail
      go_ret
      exact ⟨rfl, hk5⟩
    have hd100 : decide ((100 : Int) ≤ (j : Int)) = false := by simp; omega
    by_cases hB100 : 100 < nB
    · have hdB : decide ((100 : Int) < (nB : Int)) = true := by simp; omega
      go_wp2_with fail
      refine (Finish.out _ hP5).mono ?_
      rintro e w4 ⟨rfl, rfl⟩
      go_wp2_with fail
      go_ret
      exact ⟨rfl, hk5⟩
    have hdB : decide ((100 : Int) < (nB : Int)) = false := by simp; omega
    by_cases hK200 : 200 < nK
    · have hdK : decide ((200 : Int) < (nK : Int)) = true := by simp; omega
      go_wp2_with fail
      refine (Finish.out _ hP5).mono ?_
      rintro e w4 ⟨rfl, rfl⟩
      go_wp2_with fail
      go_ret
      exact ⟨rfl, hk5⟩
    have hdK : decide ((200 : Int) < (nK : Int)) = false := by simp; omega
    have hownE : (w5.alloc (.cells #[] 5)).ownsRow w5.heap.size 5 1 (.slice (some ⟨w5.heap.size, 0, none⟩) 0 0) 0 [] := owns_lit0 w5 _ _ (Nat.le_refl _)
    have hBE := (hB.kept hk5).kept ((Keeps.refl No w5).alloc (.cells #[] 5))
    go_wp2_with (at_builtin; refine app_ownS rfl (.tmp 59) (.tmp 61) 22 rfl w5.heap.size 5 (.int .u8 0) 1 Try.underlying22 byte_infoD rfl (by decide) _ 0 [] rfl hownE (fun h => by cases h) _ _ _ _ rfl hBE ?h1 ?hb ?hB2 ?_)
    case h1 => exact byteV_one _
    case hb => omega
    case hB2 => simp
    intro g7 c7 w7 hown7 hg7 hgb7 hgl7
    have hkE : Keeps No w5 w7 := ((Keeps.refl No w5).alloc _).grown hg7 (fun i hi hlt => absurd hlt (by have hi' : w5.heap.size = i := (by injection hi); omega))
    have hk7 := hk5.transNo hkE
    have hP7 := hP5.kept hkE
    have hb7 := hkE.blk hbN (not_No _)
    obtain ⟨y0, y1, y2, y3⟩ := opd_cells hb7
    replace hown7 : w7.ownsRow 0 5 1 (.slice (some ⟨g7, 0, none⟩) nB c7) nB (pB.map byteV) := own_le (by simpa using hown7) (Nat.zero_le _)
    obtain ⟨av, cv, hev, hsv, _⟩ := Sl.ofOwn hown7
    obtain ⟨rfl, rfl⟩ : some ⟨g7, 0, none⟩ = av ∧ c7 = cv := by
      simp only [Value.slice.injEq, true_and] at hev
      exact ⟨hev.1, hev.2⟩
    have hnd : ∀ i, Fd i → i < w5.heap.size := hP5.1.lt
    have hnr : ∀ i, Fr i → i < w5.heap.size := hP5.2.1.lt
    have hnd0 : ∀ i, Fd i → i < wr.heap.size := hP.1.lt
    have hnr0 : ∀ i, Fr i → i < wr.heap.size := hP.2.1.lt
    have m1 : ¬ Fd g7 := fun h => by have := hnd _ h; omega
    have m2 : ¬ Fr g7 := fun h => by have := hnr _ h; omega
    have m3 : ¬ Fd wr.heap.size := fun h => by have := hnd0 _ h; omega
    have m4 : ¬ Fr wr.heap.size := fun h => by have := hnr0 _ h; omega
    have hj100 : j < 100 := by omega
    have hne7 : wr.heap.size ≠ g7 := by omega
    have hw7 : w.heap.size ≤ g7 := by have := hk5.size; omega
    clear hev hg7 hbN x0 x1 x2 x3 hownE hBE hd100 hdB hdK hP hP5 hnd hnr hnd0 hnr0
    have hBd := Hfr.out Fd hP7.2.2.2.1 _ _ _ _ hB
    have hBr := Hfr.out Fr hP7.2.2.2.2 _ _ _ _ hB
    have hKd := Hfr.out Fd hP7.2.2.2.1 _ _ _ _ hKp
    have hKr := Hfr.out Fr hP7.2.2.2.2 _ _ _ _ hKp
    go_upto_block 2 with fail
    generalize (IntKind.u64.wrap kd).tmod 7 = q
    go_cut [12, 13] (fun s12 s13 wx => PlayCut w bd br N j wr.heap.size #[.int .i64 kd, .int .i64 iv, .slice aB nB cB, .slice aK nK cK] g7 nB c7 pB s12 s13 wx)
    case first =>
      have same : PlayCut w bd br N j wr.heap.size #[.int .i64 kd, .int .i64 iv, .slice aB nB cB, .slice aK nK cK] g7 nB c7 pB (.int .i64 0) (.int .i64 0) w7 :=
        ⟨D, Fd, Fr, 0, rfl, rfl, hP7, HKl.out, by omega, hb7, hown7, m1, m2, m3, m4, hk7⟩
      have hr7 := fun wx (hx : Keeps Fd w7 wx) => hP7.2.1.keep hx (fun i hr hd => hP7.2.2.1 i hd hr)
      by_cases q0 : q = 0
      · have e0 : (q == 0) = true := by rw [beq_iff_eq]; exact q0
        clear q0
        have hwd := d_write bd Fd D iv (some ⟨g7, 0, none⟩) nB c7 pB w7.drew (hP7.1.kept (Keeps.refl No w7).drew) (hsv.kept (Keeps.refl No w7).drew) hBn (fun _ => m1) (by omega)
        obtain ⟨l1, l2⟩ := write_len D iv pB
        have hst := fun wx (hx : Keeps No w wx) => strB (hB.kept hx)
        go_wp2_with fail
        refine wp_region_held_drew (S := fun wx => wx.cell? ⟨wr.heap.size, 1, none⟩ = some (.int .i64 iv) ∧ wx.cell? ⟨wr.heap.size, 2, none⟩ = some (.slice aB nB cB) ∧ (convert 22 9 (.slice aB nB cB)).run Try.prog wx = .ok (.string ⟨pB.toArray⟩) wx) (by kernel_rfl) (⟨y1, y2, hst _ hk7.drew⟩) (fun hS => ?_)
        refine tk (i := 0) (oi := ⟨some 69, _, _, _, _, _⟩) (v := ?_) rfl (by kernel_rfl) (fun _ _ _ h => h) (by assumption) (by rfl) (fun w hSw => ?_) ?_; rotate_left; (focus (first | (go_simp; done) | (go_simp; with_reducible rfl))); simp only [Act.put, List.setIfInBounds_toArray, List.set_cons_zero, List.set_cons_succ]
        refine tk (i := 1) (oi := ⟨some 70, _, _, _, _, _⟩) (v := ?_) rfl (by kernel_rfl) (fun _ _ _ h => h) (by assumption) (by rfl) (fun w hSw => ?_) ?_; rotate_left; (focus (first | (go_simp; done) | (go_simp; with_reducible rfl))); simp only [Act.put, List.setIfInBounds_toArray, List.set_cons_zero, List.set_cons_succ]
        refine tk (i := 2) (oi := ⟨some 71, _, _, _, _, _⟩) (v := ?_) rfl (by kernel_rfl) (fun _ _ _ h => h) (by assumption) (by rfl) (fun w hSw => ?_) ?_; rotate_left; (focus (first | (go_simp; done) | (go_simp; with_reducible rfl))); simp only [Act.put, List.setIfInBounds_toArray, List.set_cons_zero, List.set_cons_succ]
        refine tk (i := 3) (oi := ⟨some 72, _, _, _, _, _⟩) (v := ?_) rfl (by kernel_rfl) (fun _ _ _ h => h) (by assumption) (by rfl) (fun w hSw => ?_) ?_; rotate_left; (focus (first | (go_simp; done) | (go_simp; with_reducible rfl))); simp only [Act.put, List.setIfInBounds_toArray, List.set_cons_zero, List.set_cons_succ]
        refine tk (i := 5) (oi := ⟨some 74, _, _, _, _, _⟩) (v := ?_) rfl (by kernel_rfl) (fun _ _ _ h => h) (by assumption) (by rfl) (fun w hSw => ?_) ?_; rotate_left; (focus (first | (go_simp; done) | (go_simp; with_reducible rfl))); simp only [Act.put, List.setIfInBounds_toArray, List.set_cons_zero, List.set_cons_succ]
        refine tk (i := 6) (oi := ⟨some 75, _, _, _, _, _⟩) (v := ?_) rfl (by kernel_rfl) (fun _ _ _ h => h) (by assumption) (by rfl) (fun w hSw => ?_) ?_; rotate_left; (focus (first | (go_simp; done) | (go_simp; with_reducible rfl))); simp only [Act.put, List.setIfInBounds_toArray, List.set_cons_zero, List.set_cons_succ]
        refine tk (i := 7) (oi := ⟨some 76, _, _, _, _, _⟩) (v := ?_) rfl (by kernel_rfl) (fun _ _ _ h => h) (by assumption) (by rfl) (fun w hSw => ?_) ?_; rotate_left; (focus (first | (go_simp; done) | (go_simp; with_reducible rfl))); simp only [Act.put, List.setIfInBounds_toArray, List.set_cons_zero, List.set_cons_succ]
        refine tk (i := 8) (oi := ⟨some 77, _, _, _, _, _⟩) (v := ?_) rfl (by kernel_rfl) (fun _ _ _ h => h) (by assumption) (by rfl) (fun w hSw => ?_) ?_; rotate_left; (focus (first | (go_simp; done) | (go_simp; with_reducible rfl))); simp only [Act.put, List.setIfInBounds_toArray, List.set_cons_zero, List.set_cons_succ]
        refine tk (i := 9) (oi := ⟨some 78, _, _, _, _, _⟩) (v := ?_) rfl (by kernel_rfl) (fun _ _ _ h => h) (by assumption) (by rfl) (fun w hSw => ?_) ?_; rotate_left; (focus (first | (go_simp; done) | (go_simp; with_reducible rfl))); simp only [Act.put, List.setIfInBounds_toArray, List.set_cons_zero, List.set_cons_succ]
        refine tk (i := 10) (oi := ⟨some 79, _, _, _, _, _⟩) (v := ?_) rfl (by kernel_rfl) (fun _ _ _ h => h) (by assumption) (by rfl) (fun w hSw => ?_) ?_; rotate_left; (focus (first | (go_simp; done) | (go_simp; with_reducible rfl))); simp only [Act.put, List.setIfInBounds_toArray, List.set_cons_zero, List.set_cons_succ]
        refine alone (i := 4) (oi := ⟨some 73, _, _, _, _, _⟩) rfl (by kernel_rfl) (by rfl) (fun K hK => ?_); go_simp
        refine hwd.mono ?_
        rintro e w8 ⟨rfl, F8, hd8, hs8⟩
        have hk8 : Keeps No w w8 := hk7.drew.trans hs8.keeps (fun i hi h => absurd (hP7.2.2.2.1 i h) (by omega))
        have hb8 := hs8.keeps.blk (show w7.drew.heap[wr.heap.size]? = _ from hb7) m3
        obtain ⟨_, z1, z2, _⟩ := opd_cells hb8
        have hrw := r_write br Fr D iv pB w8 (hr7 _ (Keeps.ofDrew hs8.keeps)) (by have := HlB.out; omega) (by omega)
        go_simp
        refine hK.out (fun wx => wx.cell? ⟨wr.heap.size, 1, none⟩ = some (.int .i64 iv) ∧ wx.cell? ⟨wr.heap.size, 2, none⟩ = some (.slice aB nB cB) ∧ (convert 22 9 (.slice aB nB cB)).run Try.prog wx = .ok (.string ⟨pB.toArray⟩) wx) _ _ (fun _ h => h) (⟨z1, z2, hst _ hk8⟩) ?_
        clear hK K hS
        intro hS
        refine alone (i := 11) (oi := ⟨some 80, _, _, _, _, _⟩) rfl (by kernel_rfl) (by rfl) (fun K hK => ?_); go_simp
        refine hrw.mono ?_
        rintro e w9 ⟨rfl, G9, hr9, hs9⟩
        have hk9 : Keeps No w w9 := hk8.trans hs9.keeps (fun i hi h => absurd (hP7.2.2.2.2 i h) (by omega))
        have hb9 := hs9.keeps.blk hb8 m4
        obtain ⟨_, u1, u2, _⟩ := opd_cells hb9
        go_simp
        refine hK.out (fun wx => wx.cell? ⟨wr.heap.size, 1, none⟩ = some (.int .i64 iv) ∧ wx.cell? ⟨wr.heap.size, 2, none⟩ = some (.slice aB nB cB) ∧ (convert 22 9 (.slice aB nB cB)).run Try.prog wx = .ok (.string ⟨pB.toArray⟩) wx) _ _ (fun _ h => h) (⟨u1, u2, hst _ hk9⟩) ?_
        clear hK K hS
        intro hS
        refine tk (i := 12) (oi := ⟨some 12, _, _, _, _, _⟩) (v := ?_) rfl (by kernel_rfl) (fun _ _ _ h => h) (by assumption) (by rfl) (fun w hSw => ?_) ?_; rotate_left; (focus (first | (go_simp; done) | (go_simp; with_reducible rfl))); simp only [Act.put, List.setIfInBounds_toArray, List.set_cons_zero, List.set_cons_succ]
        refine tk (i := 13) (oi := ⟨some 13, _, _, _, _, _⟩) (v := ?_) rfl (by kernel_rfl) (fun _ _ _ h => h) (by assumption) (by rfl) (fun w hSw => ?_) ?_; rotate_left; (focus (first | (go_simp; done) | (go_simp; with_reducible rfl))); simp only [Act.put, List.setIfInBounds_toArray, List.set_cons_zero, List.set_cons_succ]
        refine wpAnyH_done (by kernel_rfl) ?_ _
        go_wp2_with fail
        go_meet
        exact PlayCut.mk' (hP7.kept (Keeps.refl No w7).drew) hk7.drew hb7 (own_keepB hown7 (Keeps.refl No w7).drew (not_No _)) m1 m2 m3 m4 hd8 hs8 hr9 hs9 (by rw [l1]; exact HKl.out) (by omega)
      have e0 : (q == 0) = false := by rw [beq_eq_false_iff_ne]; exact q0
      clear q0
      by_cases q2 : q = 2
      · have e2 : (q == 2) = true := by rw [beq_iff_eq]; exact q2
        clear q2
        have hwd := d_sync bd Fd D w7 hP7.1
        obtain ⟨l1, l2⟩ := sync_len D
        go_wp2_with fail
        refine hwd.mono ?_
        rintro e w8 ⟨rfl, hd8, hs8⟩
        have hrw := r_sync br Fr D w8 (hr7 _ hs8)
        go_wp2_with fail
        refine hrw.mono ?_
        rintro e w9 ⟨rfl, hr9, hs9⟩
        go_wp2_with fail
        go_meet
        exact PlayCut.mk' hP7 hk7 hb7 hown7 m1 m2 m3 m4 hd8 ⟨hs8, fun _ h => .inl h⟩ hr9 ⟨hs9, fun _ h => .inl h⟩ (by rw [l1]; exact HKl.out) (by omega)
      have e2 : (q == 2) = false := by rw [beq_eq_false_iff_ne]; exact q2
      clear q2
      by_cases q3 : q = 3
      · have e3 : (q == 3) = true := by rw [beq_iff_eq]; exact q3
        clear q3
        have hwd := dbeat_any bd Fd D w7 hP7.1
        go_wp2_with fail
        refine hwd.mono ?_
        rintro e w8 ⟨rfl, hd8, hs8⟩
        have hrw := r_beat br Fr D w8 (hr7 _ hs8)
        go_wp2_with fail
        refine hrw.mono ?_
        rintro e w9 ⟨rfl, hr9, hs9⟩
        go_wp2_with fail
        go_meet
        exact PlayCut.mk' hP7 hk7 hb7 hown7 m1 m2 m3 m4 hd8 ⟨hs8, fun _ h => .inl h⟩ hr9 ⟨hs9, fun _ h => .inl h⟩ HKl.out (Nat.le_succ_of_le hWl)
      have e3 : (q == 3) = false := by rw [beq_eq_false_iff_ne]; exact q3
      clear q3
      by_cases q4 : q = 4
      · have e4 : (q == 4) = true := by rw [beq_iff_eq]; exact q4
        clear q4
        have hwd := dlimit_any bd Fd D iv w7 hP7.1 hivw.2
        go_wp2_with fail
        refine hwd.mono ?_
        rintro e w8 ⟨rfl, hd8, hs8⟩
        have hrw := r_limit br Fr D iv w8 (hr7 _ hs8) hivw.2
        have hb8 := hs8.blk hb7 m3
        obtain ⟨_, z1, z2, _⟩ := opd_cells hb8
        go_wp2_with fail
        refine hrw.mono ?_
        rintro e w9 ⟨rfl, hr9, hs9⟩
        go_wp2_with fail
        go_meet
        exact PlayCut.mk' hP7 hk7 hb7 hown7 m1 m2 m3 m4 hd8 ⟨hs8, fun _ h => .inl h⟩ hr9 ⟨hs9, fun _ h => .inl h⟩ HKl.out (Nat.le_succ_of_le hWl)
      have e4 : (q == 4) = false := by rw [beq_eq_false_iff_ne]; exact q4
      clear q4
      by_cases q5 : q = 5
      · have e5 : (q == 5) = true := by rw [beq_iff_eq]; exact q5
        clear q5
        have hwd := dcrash_any bd Fd D aK nK cK pK w7 hP7.1 (hKp.kept hk7) hKd
        obtain ⟨l1, l2⟩ := crash_len D pK
        go_wp2_with fail
        refine hwd.mono ?_
        rintro e w8 ⟨rfl, hd8, hs8⟩
        have hk8 : Keeps No w w8 := hk7.trans hs8 (fun i hi h => absurd (hP7.2.2.2.1 i h) (by omega))
        have hrw := r_crash br Fr D aK nK cK pK w8 (hr7 _ hs8) (by rw [HKl.out]; omega) (hKp.kept hk8) hKr
        have hb8 := hs8.blk hb7 m3
        obtain ⟨_, z1, z2, z3⟩ := opd_cells hb8
        go_wp2_with fail
        refine hrw.mono ?_
        rintro e w9 ⟨rfl, hr9, hs9⟩
        go_wp2_with fail
        go_meet
        exact PlayCut.mk' hP7 hk7 hb7 hown7 m1 m2 m3 m4 hd8 ⟨hs8, fun _ h => .inl h⟩ hr9 ⟨hs9, fun _ h => .inl h⟩ (by rw [l1]; exact HKl.out) (by omega)
      have e5 : (q == 5) = false := by rw [beq_eq_false_iff_ne]; exact q5
      clear q5
      by_cases q6 : q = 6
      · have e6 : (q == 6) = true := by rw [beq_iff_eq]; exact q6
        clear q6
        have hwd := d_over bd Fd D iv (some ⟨g7, 0, none⟩) nB c7 pB w7.drew (hP7.1.kept (Keeps.refl No w7).drew) (hsv.kept (Keeps.refl No w7).drew) hBn (fun _ => m1)
        obtain ⟨l1, l2⟩ := over_len D iv pB
        have hst := fun wx (hx : Keeps No w wx) => strB (hB.kept hx)
        go_wp2_with fail
        refine wp_region_held_drew (S := fun wx => wx.cell? ⟨wr.heap.size, 1, none⟩ = some (.int .i64 iv) ∧ wx.cell? ⟨wr.heap.size, 2, none⟩ = some (.slice aB nB cB) ∧ (convert 22 9 (.slice aB nB cB)).run Try.prog wx = .ok (.string ⟨pB.toArray⟩) wx) (by kernel_rfl) (⟨y1, y2, hst _ hk7.drew⟩) (fun hS => ?_)
        refine tk (i := 0) (oi := ⟨some 115, _, _, _, _, _⟩) (v := ?_) rfl (by kernel_rfl) (fun _ _ _ h => h) (by assumption) (by rfl) (fun w hSw => ?_) ?_; rotate_left; (focus (first | (go_simp; done) | (go_simp; with_reducible rfl))); simp only [Act.put, List.setIfInBounds_toArray, List.set_cons_zero, List.set_cons_succ]
        refine tk (i := 1) (oi := ⟨some 116, _, _, _, _, _⟩) (v := ?_) rfl (by kernel_rfl) (fun _ _ _ h => h) (by assumption) (by rfl) (fun w hSw => ?_) ?_; rotate_left; (focus (first | (go_simp; done) | (go_simp; with_reducible rfl))); simp only [Act.put, List.setIfInBounds_toArray, List.set_cons_zero, List.set_cons_succ]
        refine tk (i := 2) (oi := ⟨some 117, _, _, _, _, _⟩) (v := ?_) rfl (by kernel_rfl) (fun _ _ _ h => h) (by assumption) (by rfl) (fun w hSw => ?_) ?_; rotate_left; (focus (first | (go_simp; done) | (go_simp; with_reducible rfl))); simp only [Act.put, List.setIfInBounds_toArray, List.set_cons_zero, List.set_cons_succ]
        refine tk (i := 3) (oi := ⟨some 118, _, _, _, _, _⟩) (v := ?_) rfl (by kernel_rfl) (fun _ _ _ h => h) (by assumption) (by rfl) (fun w hSw => ?_) ?_; rotate_left; (focus (first | (go_simp; done) | (go_simp; with_reducible rfl))); simp only [Act.put, List.setIfInBounds_toArray, List.set_cons_zero, List.set_cons_succ]
        refine tk (i := 5) (oi := ⟨some 120, _, _, _, _, _⟩) (v := ?_) rfl (by kernel_rfl) (fun _ _ _ h => h) (by assumption) (by rfl) (fun w hSw => ?_) ?_; rotate_left; (focus (first | (go_simp; done) | (go_simp; with_reducible rfl))); simp only [Act.put, List.setIfInBounds_toArray, List.set_cons_zero, List.set_cons_succ]
        refine tk (i := 6) (oi := ⟨some 121, _, _, _, _, _⟩) (v := ?_) rfl (by kernel_rfl) (fun _ _ _ h => h) (by assumption) (by rfl) (fun w hSw => ?_) ?_; rotate_left; (focus (first | (go_simp; done) | (go_simp; with_reducible rfl))); simp only [Act.put, List.setIfInBounds_toArray, List.set_cons_zero, List.set_cons_succ]
        refine tk (i := 7) (oi := ⟨some 122, _, _, _, _, _⟩) (v := ?_) rfl (by kernel_rfl) (fun _ _ _ h => h) (by assumption) (by rfl) (fun w hSw => ?_) ?_; rotate_left; (focus (first | (go_simp; done) | (go_simp; with_reducible rfl))); simp only [Act.put, List.setIfInBounds_toArray, List.set_cons_zero, List.set_cons_succ]
        refine tk (i := 8) (oi := ⟨some 123, _, _, _, _, _⟩) (v := ?_) rfl (by kernel_rfl) (fun _ _ _ h => h) (by assumption) (by rfl) (fun w hSw => ?_) ?_; rotate_left; (focus (first | (go_simp; done) | (go_simp; with_reducible rfl))); simp only [Act.put, List.setIfInBounds_toArray, List.set_cons_zero, List.set_cons_succ]
        refine tk (i := 9) (oi := ⟨some 124, _, _, _, _, _⟩) (v := ?_) rfl (by kernel_rfl) (fun _ _ _ h => h) (by assumption) (by rfl) (fun w hSw => ?_) ?_; rotate_left; (focus (first | (go_simp; done) | (go_simp; with_reducible rfl))); simp only [Act.put, List.setIfInBounds_toArray, List.set_cons_zero, List.set_cons_succ]
        refine tk (i := 10) (oi := ⟨some 125, _, _, _, _, _⟩) (v := ?_) rfl (by kernel_rfl) (fun _ _ _ h => h) (by assumption) (by rfl) (fun w hSw => ?_) ?_; rotate_left; (focus (first | (go_simp; done) | (go_simp; with_reducible rfl))); simp only [Act.put, List.setIfInBounds_toArray, List.set_cons_zero, List.set_cons_succ]
        refine alone (i := 4) (oi := ⟨some 119, _, _, _, _, _⟩) rfl (by kernel_rfl) (by rfl) (fun K hK => ?_); go_simp
        refine hwd.mono ?_
        rintro e w8 ⟨rfl, hd8, hs8⟩
        have hk8 : Keeps No w w8 := hk7.drew.trans hs8 (fun i hi h => absurd (hP7.2.2.2.1 i h) (by omega))
        have hb8 := hs8.blk (show w7.drew.heap[wr.heap.size]? = _ from hb7) m3
        obtain ⟨_, z1, z2, _⟩ := opd_cells hb8
        have hrw := r_over br Fr D iv pB w8 (hr7 _ (Keeps.ofDrew hs8)) (by have := HlB.out; omega) (by omega)
        go_simp
        refine hK.out (fun wx => wx.cell? ⟨wr.heap.size, 1, none⟩ = some (.int .i64 iv) ∧ wx.cell? ⟨wr.heap.size, 2, none⟩ = some (.slice aB nB cB) ∧ (convert 22 9 (.slice aB nB cB)).run Try.prog wx = .ok (.string ⟨pB.toArray⟩) wx) _ _ (fun _ h => h) (⟨z1, z2, hst _ hk8⟩) ?_
        clear hK K hS
        intro hS
        refine alone (i := 11) (oi := ⟨some 126, _, _, _, _, _⟩) rfl (by kernel_rfl) (by rfl) (fun K hK => ?_); go_simp
        refine hrw.mono ?_
        rintro e w9 ⟨rfl, G9, hr9, hs9⟩
        have hk9 : Keeps No w w9 := hk8.trans hs9.keeps (fun i hi h => absurd (hP7.2.2.2.2 i h) (by omega))
        have hb9 := hs9.keeps.blk hb8 m4
        obtain ⟨_, u1, u2, _⟩ := opd_cells hb9
        go_simp
        refine hK.out (fun wx => wx.cell? ⟨wr.heap.size, 1, none⟩ = some (.int .i64 iv) ∧ wx.cell? ⟨wr.heap.size, 2, none⟩ = some (.slice aB nB cB) ∧ (convert 22 9 (.slice aB nB cB)).run Try.prog wx = .ok (.string ⟨pB.toArray⟩) wx) _ _ (fun _ h => h) (⟨u1, u2, hst _ hk9⟩) ?_
        clear hK K hS
        intro hS
        refine tk (i := 12) (oi := ⟨some 12, _, _, _, _, _⟩) (v := ?_) rfl (by kernel_rfl) (fun _ _ _ h => h) (by assumption) (by rfl) (fun w hSw => ?_) ?_; rotate_left; (focus (first | (go_simp; done) | (go_simp; with_reducible rfl))); simp only [Act.put, List.setIfInBounds_toArray, List.set_cons_zero, List.set_cons_succ]
        refine tk (i := 13) (oi := ⟨some 13, _, _, _, _, _⟩) (v := ?_) rfl (by kernel_rfl) (fun _ _ _ h => h) (by assumption) (by rfl) (fun w hSw => ?_) ?_; rotate_left; (focus (first | (go_simp; done) | (go_simp; with_reducible rfl))); simp only [Act.put, List.setIfInBounds_toArray, List.set_cons_zero, List.set_cons_succ]
        refine wpAnyH_done (by kernel_rfl) ?_ _
        go_wp2_with fail
        go_meet
        exact PlayCut.mk' (hP7.kept (Keeps.refl No w7).drew) hk7.drew hb7 (own_keepB hown7 (Keeps.refl No w7).drew (not_No _)) m1 m2 m3 m4 hd8 ⟨hs8, fun _ h => .inl h⟩ hr9 hs9 (by rw [l1]; exact HKl.out) (by omega)
      have e6 : (q == 6) = false := by rw [beq_eq_false_iff_ne]; exact q6
      clear q6
      go_wp2_with fail
      go_meet
      exact same
    case rest =>
      clear hP7 hown7 m1 m2 m3 m4 hb7 y0 y1 y2 y3 hBd hBr hKd hKr hkE hsv hkr hkN hk5 hk7 HKl hWl Finish
      obtain ⟨D, Fd, Fr, e, rfl, rfl, hP, hKl, hWl, hbO, hown, m1, m2, m3, m4, hk⟩ := hcut
      obtain ⟨wx, hwx⟩ : ∃ wx, wx = wc := ⟨_, rfl⟩
      subst hwx
      generalize wr.heap.size = gO at hbO hne7 m3 m4 ⊢
      have HKl := Lib.hid hKl
      clear hKl
      have HQ0 := Hq
      clear Hq
      go_wp2_with fail
      go_loopg [129] nB (fun q i wr => ∃ (m : Nat) (p : List UInt8), m ≤ nB ∧ q = nB - m ∧ i = .int .i64 (m : Int) ∧ Hid (p.length = nB) ∧ wr.ownsRow 0 5 1 (.slice (some ⟨g7, 0, none⟩) nB c7) nB (p.map byteV) ∧ Keeps (fun k => k = g7) wx wr)
      case atStart => exact ⟨0, pB, Nat.zero_le _, rfl, rfl, HlB, hown, Keeps.refl _ _⟩
      case round =>
        clear hown
        obtain ⟨m, p, hm, hq, rfl, Hp, hor, hkx⟩ := hrel
        have Hq := Lib.hid hq
        clear hq
        by_cases hlt : m < nB
        · have hmp : m < p.length := by rw [Hp.out]; exact hlt
          obtain ⟨ar, cr, hre, hsr, _⟩ := Sl.ofOwn hor
          obtain ⟨rfl, rfl⟩ : some ⟨g7, 0, none⟩ = ar ∧ c7 = cr := by
            simp only [Value.slice.injEq, true_and] at hre
            exact ⟨hre.1, hre.2⟩
          have hix := hsr.ix (P := Try.prog) Try.underlying22 (by kernel_rfl) hlt .i64
          have hcm := hsr.at_ hlt
          obtain ⟨x, hx⟩ : ∃ x, x = p[m] := ⟨_, rfl⟩
          have hbv : (p.map byteV).getD m undef = .int .u8 (x.toNat : Int) := by rw [hx]; simp [hmp, byteV]
          rw [hbv] at hcm
          simp only [Option.getD_some, Addr.add_lit, Nat.zero_add] at hix hcm
          have hfm := hor.frozenAt m
          have hst := (hor.stored m (byteV (x ^^^ 255))).1
          rw [← List.map_set] at hst
          have Hst := Lib.hid hst
          have hx256 := x.toNat_lt
          clear hre hsr hbv hst hx
          go_wp2_with fail
          go_roundg (nB - (m + 1))
          case measure => have := Hq.out; omega
          case rel => exact ⟨m + 1, p.set m (x ^^^ 255), by omega, rfl, by go_num, Lib.hid (by rw [List.length_set, Hp.out]), by rw [← byteV_xor]; exact Hst.out, hkx.trans (Keeps.set _ g7 m _) (fun _ _ h => h)⟩
        · obtain rfl : nB = m := by omega
          have hP9 := hP.keep hkx (fun i hi e => m1 (by rw [← e]; exact hi)) (fun i hi e => m2 (by rw [← e]; exact hi))
          have hb9 := hkx.blk hbO hne7
          obtain ⟨y0, y1, y2, y3⟩ := opd_cells hb9
          have hk9 : Keeps No w _ := hk.trans hkx (fun i hi e => by omega)
          obtain ⟨vk, vl, r1, r2, r3, _⟩ := hP9.2.1
          obtain ⟨al, cl, rfl, _, _⟩ := SlK.ofOwn (k := 2) (xs := D.W.map wr2) (by decide) (wr2_wide _) r3
          have hcr := fun wy (hy : Keeps No wr wy) => cell_of_row wy br 1 _ _ (0, 0) (hy.blk r1 (not_No _))
          go_wp2_with fail
          refine wp_region_held_drew (S := fun wy => Keeps No wr wy ∧ wy.cell? ⟨br, 1, none⟩ = some (.slice al D.W.length cl)) (by kernel_rfl) (⟨(Keeps.refl _ _).drew, hcr _ (Keeps.refl _ _).drew⟩) (fun hS => ?_)
          refine tk (i := 0) (oi := ⟨some 139, _, _, _, _, _⟩) (v := ?_) rfl (by kernel_rfl) (fun _ _ _ h => h) (by assumption) (by rfl) (fun w hSw => ?_) ?_; rotate_left; (focus (first | (go_simp; done) | (go_simp; with_reducible rfl))); simp only [Act.put, List.setIfInBounds_toArray, List.set_cons_zero, List.set_cons_succ]
          refine tk (i := 1) (oi := ⟨some 140, _, _, _, _, _⟩) (v := ?_) rfl (by kernel_rfl) (fun _ _ _ h => h) (by assumption) (by rfl) (fun w hSw => ?_) ?_; rotate_left; (focus (first | (go_simp; done) | (go_simp; with_reducible rfl))); simp only [Act.put, List.setIfInBounds_toArray, List.set_cons_zero, List.set_cons_succ]
          refine tk (i := 2) (oi := ⟨some 141, _, _, _, _, _⟩) (v := ?_) rfl (by kernel_rfl) (fun _ _ _ h => h) (by assumption) (by rfl) (fun w hSw => ?_) ?_; rotate_left; (focus (first | (go_simp; done) | (go_simp; with_reducible rfl))); simp only [Act.put, List.setIfInBounds_toArray, List.set_cons_zero, List.set_cons_succ]
          refine tk (i := 3) (oi := ⟨some 142, _, _, _, _, _⟩) (v := ?_) rfl (by kernel_rfl) (fun _ _ _ h => h) (by assumption) (by rfl) (fun w hSw => ?_) ?_; rotate_left; (focus (first | (go_simp; done) | (go_simp; with_reducible rfl))); simp only [Act.put, List.setIfInBounds_toArray, List.set_cons_zero, List.set_cons_succ]
          refine tk (i := 4) (oi := ⟨some 143, _, _, _, _, _⟩) (v := ?_) rfl (by kernel_rfl) (fun _ _ _ h => h) (by assumption) (by rfl) (fun w hSw => ?_) ?_; rotate_left; (focus (first | (go_simp; done) | (go_simp; with_reducible rfl))); simp only [Act.put, List.setIfInBounds_toArray, List.set_cons_zero, List.set_cons_succ]
          refine tk (i := 6) (oi := ⟨some 145, _, _, _, _, _⟩) (v := ?_) rfl (by kernel_rfl) (fun _ _ _ h => h) (by assumption) (by rfl) (fun w hSw => ?_) ?_; rotate_left; (focus (first | (go_simp; done) | (go_simp; with_reducible rfl))); simp only [Act.put, List.setIfInBounds_toArray, List.set_cons_zero, List.set_cons_succ]
          refine tk (i := 7) (oi := ⟨some 146, _, _, _, _, _⟩) (v := ?_) rfl (by kernel_rfl) (fun _ _ _ h => h) (by assumption) (by rfl) (fun w hSw => ?_) ?_; rotate_left; (focus (first | (go_simp; done) | (go_simp; with_reducible rfl))); simp only [Act.put, List.setIfInBounds_toArray, List.set_cons_zero, List.set_cons_succ]
          refine tk (i := 8) (oi := ⟨some 147, _, _, _, _, _⟩) (v := ?_) rfl (by kernel_rfl) (fun _ _ _ h => h) (by assumption) (by rfl) (fun w hSw => ?_) ?_; rotate_left; (focus (first | (go_simp; done) | (go_simp; with_reducible rfl))); simp only [Act.put, List.setIfInBounds_toArray, List.set_cons_zero, List.set_cons_succ]
          refine tk (i := 9) (oi := ⟨some 148, _, _, _, _, _⟩) (v := ?_) rfl (by kernel_rfl) (fun _ _ _ h => h) (by assumption) (by rfl) (fun w hSw => ?_) ?_; rotate_left; (focus (first | (go_simp; done) | (go_simp; with_reducible rfl))); simp only [Act.put, List.setIfInBounds_toArray, List.set_cons_zero, List.set_cons_succ]
          refine tk (i := 10) (oi := ⟨some 149, _, _, _, _, _⟩) (v := ?_) rfl (by kernel_rfl) (fun _ _ _ h => h) (by assumption) (by rfl) (fun w hSw => ?_) ?_; rotate_left; (focus (first | (go_simp; done) | (go_simp; with_reducible rfl))); simp only [Act.put, List.setIfInBounds_toArray, List.set_cons_zero, List.set_cons_succ]
          refine alone (i := 5) (oi := ⟨some 144, _, _, _, _, _⟩) rfl (by kernel_rfl) (by rfl) (fun K hK => ?_); go_simp
          refine (dwaiting_any bd Fd _ _ (hP9.1.kept hS.1)).mono ?_
          rintro e w10 ⟨rfl, rfl⟩
          go_simp
          refine hK.out (fun wy => Keeps No wr wy ∧ wy.cell? ⟨br, 1, none⟩ = some (.slice al D.W.length cl)) _ _ (fun _ h => h) (hS) ?_
          clear hK K hS
          intro hS
          refine tk (i := 11) (oi := ⟨some 150, _, _, _, _, _⟩) (v := ?_) rfl (by kernel_rfl) (fun _ _ _ h => h) (by assumption) (by rfl) (fun w hSw => ?_) ?_; rotate_left; (focus (first | (go_simp; done) | (go_simp; with_reducible rfl))); simp only [Act.put, List.setIfInBounds_toArray, List.set_cons_zero, List.set_cons_succ]
          refine tk (i := 12) (oi := ⟨some 151, _, _, _, _, _⟩) (v := ?_) rfl (by kernel_rfl) (fun _ _ _ h => h) (by assumption) (by rfl) (fun w hSw => ?_) ?_; rotate_left; (focus (first | (go_simp; done) | (go_simp; with_reducible rfl))); simp only [Act.put, List.setIfInBounds_toArray, List.set_cons_zero, List.set_cons_succ]
          refine wpAnyH_done (by kernel_rfl) ?_ _
          have hP10 := hP9.kept hS.1
          have hb10 := hS.1.blk hb9 (not_No _)
          have hk10 := hk9.transNo hS.1
          clear hS hcr r1 r2 r3 hP hP9 hbO hb9 y0 y1 y2 y3 hk hk9 hkx hor
          go_wp2_with fail
          go_loopg [15] (N + 2) (fun q s wy => ∃ m : Nat, m ≤ N + 2 ∧ q = N + 2 - m ∧ s = .int .i64 ((m : Int) - 1) ∧ Pair w.heap.size bd br Fd Fr D wy ∧ wy.heap[gO]? = some (.cells #[.int .i64 kd, .int .i64 iv, .slice aB nB cB, .slice aK nK cK] 33 (0, 0)) ∧ Keeps No w wy)
          case atStart => exact ⟨0, Nat.zero_le _, rfl, rfl, hP10, hb10, hk10⟩
          case round =>
            clear hP10 hb10 hk10
            obtain ⟨m, hm, hq, rfl, hP, hbO, hk⟩ := hrel
            have Hq := Lib.hid hq
            clear hq
            by_cases hlt2 : m < N + 2
            · have hle : decide ((m : Int) - 1 ≤ (N : Int)) = true := by simp; omega
              generalize hR : D.read ((m : Int) - 1) = R
              have HR := Lib.hid hR
              have hd1 := d_read bd Fd D ((m : Int) - 1) wr hP.1
              rw [hR] at hd1
              clear hR
              go_wp2_with fail
              refine hd1.mono ?_
              rintro e1 w10 ⟨v10, rfl, hown10, hk10⟩
              clear hd1
              have hr1 := r_read br Fr D ((m : Int) - 1) w10 (hP.2.1.kept hk10)
              rw [HR.out] at hr1
              obtain ⟨a10, c10, rfl, hs10, _⟩ := Sl.ofOwn hown10
              have hst := strB hs10
              have hcm := hs10.max
              have hcl := hs10.le
              unfold maxLen at hcm
              go_wp2_with fail
              refine hr1.mono ?_
              rintro e1 w11 ⟨rfl, rfl⟩
              clear hr1
              go_wp2_with fail
              go_loopg [180] R.1.length (fun q i wy => ∃ (k : Nat) (p : List UInt8), k ≤ R.1.length ∧ q = R.1.length - k ∧ i = .int .i64 (k : Int) ∧ Hid (p.length = R.1.length) ∧ wy.ownsRow wr.heap.size 5 1 (.slice a10 R.1.length c10) R.1.length (p.map byteV) ∧ Keeps No wr wy)
              case atStart => exact ⟨0, R.1, Nat.zero_le _, rfl, rfl, rfl, hown10, hk10⟩
              case round =>
                clear hown10 hs10 hst
                obtain ⟨k, p, hk1, hq, rfl, Hp, hor, hkx⟩ := hrel
                have Hq2 := Lib.hid hq
                clear hq
                by_cases hlt3 : k < R.1.length
                · have hmp : k < p.length := by rw [Hp.out]; exact hlt3
                  obtain ⟨ga, ca, hga⟩ := own_form hor (by omega)
                  obtain ⟨rfl, rfl⟩ : a10 = some ⟨ga, 0, none⟩ ∧ c10 = ca := by
                    simp only [Value.slice.injEq, true_and] at hga
                    exact ⟨hga.1, hga.2⟩
                  obtain ⟨ar, cr, hre, hsr, _⟩ := Sl.ofOwn hor
                  obtain ⟨rfl, rfl⟩ : some ⟨ga, 0, none⟩ = ar ∧ c10 = cr := by
                    simp only [Value.slice.injEq, true_and] at hre
                    exact ⟨hre.1, hre.2⟩
                  have hix := hsr.ix (P := Try.prog) Try.underlying22 (by kernel_rfl) hlt3 .i64
                  have hcm2 := hsr.at_ hlt3
                  obtain ⟨x, hx⟩ : ∃ x, x = p[k] := ⟨_, rfl⟩
                  have hbv : (p.map byteV).getD k undef = .int .u8 (x.toNat : Int) := by rw [hx]; simp [hmp, byteV]
                  rw [hbv] at hcm2
                  simp only [Option.getD_some, Addr.add_lit, Nat.zero_add] at hix hcm2
                  have hfm := hor.frozenAt k
                  have hst := (hor.stored k (byteV (x ^^^ 255))).1
                  rw [← List.map_set] at hst
                  have Hst := Lib.hid hst
                  have hx256 := x.toNat_lt
                  have hga2 := (hor.lt ga rfl).1
                  clear hre hsr hbv hst hx hga
                  go_wp2_with fail
                  go_roundg (R.1.length - (k + 1))
                  case measure => have := Hq2.out; omega
                  case rel => exact ⟨k + 1, p.set k (x ^^^ 255), by omega, rfl, by go_num, Lib.hid (by rw [List.length_set, Hp.out]), by rw [← byteV_xor]; exact Hst.out, hkx.setCell (p := ⟨ga, k, none⟩) (fun h => absurd h (by simp; omega)) _⟩
                · obtain rfl : k = R.1.length := by omega
                  go_wp2_with fail
                  go_roundg (N + 2 - (m + 1))
                  case measure => have := Hq.out; omega
                  case rel => exact ⟨m + 1, by omega, rfl, by go_num, hP.kept hkx, hkx.blk hbO (not_No _), hk.transNo hkx⟩
            · obtain rfl : m = N + 2 := by omega
              have hle : decide (((N + 2 : Nat) : Int) - 1 ≤ (N : Int)) = false := by simp; omega
              generalize hR : D.read iv = R
              have HR := Lib.hid hR
              have hd1 := d_read bd Fd D iv wr hP.1
              rw [hR] at hd1
              obtain ⟨y0, y1, y2, y3⟩ := opd_cells hbO
              clear hR
              go_wp2_with fail
              refine hd1.mono ?_
              rintro e1 w10 ⟨v10, rfl, hown10, hk10⟩
              clear hd1 y0 y1 y2 y3
              obtain ⟨y0, y1, y2, y3⟩ := opd_cells (hk10.blk hbO (not_No _))
              have hr1 := r_read br Fr D iv w10 (hP.2.1.kept hk10)
              rw [HR.out] at hr1
              obtain ⟨a10, c10, rfl, hs10, _⟩ := Sl.ofOwn hown10
              have hst := strB hs10
              go_wp2_with fail
              refine hr1.mono ?_
              rintro e1 w11 ⟨rfl, rfl⟩
              clear hr1
              go_wp2_with fail
              go_roundg (n1 - (j + 1))
              case measure => have := HQ0.out; omega
              case rel => exact ⟨j + 1, D, Fd, Fr, by omega, rfl, by go_num, hP.kept hk10, HKl, by omega, hk.transNo hk10⟩
end Go.Proofs.Ythimnkmoeonheaa
