/- The walk of RootKeeps. -/
import Derived.Test.YthimnkmoeonheaaDoorLawEightP
import Derived.Lib.MinMax
namespace Go.Proofs.YthimnkmoeonheaaDoor
open Go.RowKit
set_option linter.unusedSimpArgs false
set_option linter.unusedVariables false
set_option maxRecDepth 100000

theorem bytes_info8 : (Tryd.prog.info? 35).map (fun i => (i.zero, i.size, i.bytes)) = some (some (.slice none 0 0), 1, 24) := by kernel_rfl
theorem read16 (D : DS) (hk : D.Ok) (i : Int) (h : (D.read i).2 = 0) : (D.read i).1.length = 16 := by
  unfold DS.read at h ⊢
  by_cases hr : rightD D.K.length i 0 = true
  · rw [if_pos hr] at h ⊢
    by_cases hl : D.lim = some 0
    · rw [if_pos hl] at h; exact absurd h (by decide)
    · rw [if_neg hl]
      have hr' := hr
      unfold rightD at hr'
      simp at hr'
      have hj : i.toNat < D.K.length := by omega
      exact lastW_len D.W (fun x hx => (hk.ww x hx).1) i.toNat (D.K.getD i.toNat []) (hk.kw _ (by simp [hj]))
  · rw [if_neg hr] at h; exact absurd h (by decide)
theorem rget_down (s : RS) (h0 : s.ver ≠ 0) (h2 : 2 ≤ s.D.K.length) (hl : s.D.lim = some 0) : (rget s []).2 = 40 := by
  unfold rget preadA
  have hr : s.D.read ((s.ver % 2 : Nat) : Int) = ([], 40) := by
    unfold DS.read
    rw [rightD_ok _ _ _ (by omega) (by omega) (by omega), if_pos rfl, if_pos hl]
  rw [if_neg h0, hr]
  rfl
theorem rget_kept (s : RS) (L : List UInt8) (laid : Bool) (hg : Good8 s L) (hu : Uniq8 s.A) (hs : laid = false → Safe8 s) (h2 : 2 ≤ s.D.K.length) (h0 : s.ver ≠ 0) (hv : s.ver ≤ 1099511627776) (hA : s.A.length ≤ 1099511627776) (hm : s.mark ≤ 1099511627776) :
    rget s [] = (L, 0) ∨ (rget s []).2 = 40 ∨ (rget s []).2 = 51 ∧ laid = true := by
  by_cases hl : s.D.lim = some 0
  · exact .inr (.inl (rget_down s h0 h2 hl))
  cases laid with
  | false => exact .inl (rget_safe s L hg (hs rfl) h2 h0 hl (by omega))
  | true =>
    rcases rget_three s L hg hu h2 h0 hv hA with h | h | h
    · exact .inl h
    · exact .inr (.inl h.1)
    · exact .inr (.inr ⟨h, rfl⟩)

/-- The slices of bytes that were seen: apart from X. -/
def Seen (w : World) (X : Nat → Prop) (v : Value) (k : Nat) : Prop :=
  ∃ vs, w.ownsRow 0 35 1 v k vs ∧ (∀ g, v.ownBlock = some g → ¬ X g) ∧ ∀ j, j < k → ∃ g c p, vs[j]? = some (.slice (some ⟨g, 0, none⟩) 16 c) ∧ Sl w (some ⟨g, 0, none⟩) 16 c ((p : List UInt8).map byteV) ∧ ¬ X g ∧ v.ownBlock ≠ some g
theorem Seen.nil (w : World) (X : Nat → Prop) : Seen w X (.slice none 0 0) 0 := ⟨[], World.ownsRow_nil _ _ _ _, fun g h => (by cases h), fun j h => (by omega)⟩
theorem Seen.keep {w w' : World} {X X' S : Nat → Prop} {v : Value} {k : Nat} (h : Seen w X v k) (hk : Keeps S w w') (hS : ∀ i, S i → X i) (hX : ∀ i, X' i → X i ∨ w.heap.size ≤ i) : Seen w' X' v k := by
  obtain ⟨vs, h1, h2, h3⟩ := h
  refine ⟨vs, hk.own h1 (fun i hi h => h2 i hi (hS i h)), fun g hg hx => ?_, fun j hj => ?_⟩
  · rcases hX g hx with h | h
    · exact h2 g hg h
    · have := (h1.lt g hg).2; omega
  · obtain ⟨g, c, p, e1, e2, e3, e4⟩ := h3 j hj
    refine ⟨g, c, p, e1, e2.keep hk (fun _ h => e3 (hS _ h)), fun hx => ?_, e4⟩
    rcases hX g hx with h | h
    · exact e3 h
    · have := e2.lt (by omega); simp at this; omega
theorem Seen.kept {w w' : World} {X : Nat → Prop} {v : Value} {k : Nat} (h : Seen w X v k) (hk : Keeps No w w') : Seen w' X v k := h.keep hk (fun _ h => h.elim) (fun _ h => .inl h)
theorem Seen.push {w w' : World} {X : Nat → Prop} {v v' : Value} {k g c : Nat} {p : List UInt8} (vs : List Value) (h1 : w.ownsRow 0 35 1 v k vs) (h2 : ∀ g, v.ownBlock = some g → ¬ X g)
    (h3 : ∀ j, j < k → ∃ g c p, vs[j]? = some (.slice (some ⟨g, 0, none⟩) 16 c) ∧ Sl w (some ⟨g, 0, none⟩) 16 c ((p : List UInt8).map byteV) ∧ ¬ X g ∧ v.ownBlock ≠ some g)
    (hown : w'.ownsRow 0 35 1 v' (k + 1) (vs ++ [.slice (some ⟨g, 0, none⟩) 16 c])) (hg : w.grownBy w' v.ownBlock) (hat : ∀ i, v'.ownBlock = some i → v.ownBlock = some i ∨ w.heap.size ≤ i)
    (hX : ∀ i, X i → i < w.heap.size) (hs : Sl w (some ⟨g, 0, none⟩) 16 c (p.map byteV)) (hgX : ¬ X g) (hgv : v.ownBlock ≠ some g) : Seen w' X v' (k + 1) := by
  have hk : Keeps (fun i => v.ownBlock = some i) w w' := (Keeps.refl _ w).grown hg (fun i hi _ => hi)
  refine ⟨_, hown, fun i hi hx => ?_, fun j hj => ?_⟩
  · rcases hat i hi with h | h
    · exact h2 i h hx
    · have := hX i hx; omega
  · have hlen : vs.length = k := by simpa using h1.1
    by_cases e : j < k
    · obtain ⟨g', c', p', e1, e2, e3, e4⟩ := h3 j e
      refine ⟨g', c', p', by rw [List.getElem?_append_left (by omega)]; exact e1, e2.keep hk (fun _ h => e4 h), e3, fun h => ?_⟩
      rcases hat g' h with h | h
      · exact e4 h
      · have := e2.lt (by omega); simp at this; omega
    · obtain rfl : j = k := by omega
      refine ⟨g, c, p, by rw [List.getElem?_append_right (by omega), hlen]; simp, hs.keep hk (fun _ h => hgv h), hgX, fun h => ?_⟩
      rcases hat g h with h | h
      · exact hgv h
      · have := hs.lt (by omega); simp at this; omega

/-- What a round leaves. -/
structure KSt (s : RS) (L : List UInt8) (put laid : Bool) (j : Nat) : Prop where
  len : s.D.K.length = 6
  wl : s.D.W.length ≤ j
  al : s.A.length ≤ j
  vl : s.ver ≤ j
  ml : s.mark ≤ j
  put : put = true ↔ s.ver ≠ 0
  good : Good8 s L
  uniq : Uniq8 s.A
  safe : laid = false → Safe8 s
def KRel (w : World) (bd bv bc j : Nat) (vnow vput vlaid vseen : Value) (wx : World) : Prop :=
  ∃ (L : List UInt8) (put laid : Bool) (F : Nat → Prop) (s : RS) (m : Nat), vnow = .string ⟨L.toArray⟩ ∧ vput = .bool put ∧ vlaid = .bool laid ∧ RT wx bd bv bc F s [] ∧ KSt s L put laid j ∧ Seen wx (FC F bc) vseen m ∧ m ≤ 200 ∧ (∀ i, vseen.ownBlock = some i → w.heap.size ≤ i) ∧ (∀ i, FC F bc i → w.heap.size ≤ i) ∧ Keeps No w wx
/-- An act that moves the device alone. -/
theorem KSt.dev {s : RS} {L : List UInt8} {put laid : Bool} {j : Nat} (h : KSt s L put laid j) (D : DS) (laid' : Bool) (hK : D.K.length = s.D.K.length) (hW : D.W.length ≤ s.D.W.length) (hs : laid' = false → Safe8 ⟨D, s.A, s.ver, s.mark⟩) : KSt ⟨D, s.A, s.ver, s.mark⟩ L put laid' (j + 1) :=
  ⟨hK.trans h.len, by have := h.wl; show D.W.length ≤ _; omega, by have := h.al; show s.A.length ≤ _; omega, by have := h.vl; show s.ver ≤ _; omega, by have := h.ml; show s.mark ≤ _; omega, h.put, h.good, h.uniq, hs⟩
theorem KSt.more {s : RS} {L : List UInt8} {put laid : Bool} {j : Nat} (h : KSt s L put laid j) : KSt s L put laid (j + 1) := ⟨h.len, Nat.le_succ_of_le h.wl, Nat.le_succ_of_le h.al, Nat.le_succ_of_le h.vl, Nat.le_succ_of_le h.ml, h.put, h.good, h.uniq, h.safe⟩
theorem KSt.puts {s : RS} {L : List UInt8} {put laid : Bool} {j : Nat} (h : KSt s L put laid j) (hj : j < 61) (p : List UInt8) (hp : p.length ≤ 65536) :
    (rput s [] p).2 = 0 ∧ KSt (rput s [] p).1 p true laid (j + 1) ∨ (rput s [] p).2 = 40 ∧ KSt (rput s [] p).1 L put laid (j + 1) := by
  have h2 : 2 ≤ s.D.K.length := by rw [h.len]; omega
  obtain ⟨hA, hc⟩ := rput_inv s L p h2 hp h.good
  obtain ⟨l1, l2, l3, l4, _⟩ := rput_len s [] p
  have l5 := rput_mark s [] p j h.ml h.al
  have hu := Uniq8.grow (plain := p) h.uniq (by have := h.vl; omega)
  rw [← hA] at hu
  have := h.wl; have := h.al; have := h.vl
  rcases hc with ⟨a, b, c, d, e⟩ | ⟨a, b, c, d, e⟩
  · exact .inl ⟨a, ⟨l1.trans h.len, by omega, by omega, by omega, l5, by simp; omega, c, hu, fun _ => d⟩⟩
  · exact .inr ⟨a, ⟨l1.trans h.len, by omega, by omega, by omega, l5, by rw [b]; exact h.put, d, hu, fun hl => e (h.safe hl)⟩⟩

set_option maxHeartbeats 16000000 in
theorem rootKeeps_any (a1 : Option Addr) (n1 c1 : Nat) (L : List OPR) (w : World) (hs1 : SlK w 5 a1 n1 c1 (L.map oprV)) (hL : ∀ o ∈ L, OprOk w o) :
    Calls Tryd.prog 11 #[.slice a1 n1 c1] w fun e w' => e = .returned (.bool true) ∧ Keeps No w w' := by
  have hlen : L.length = n1 := by simpa using hs1.len
  have hwm := hs1.max
  have hwl := hs1.le
  unfold maxLen at hwm
  have Hlen := Lib.hid hlen
  have HL := Lib.hid hL
  clear hlen hL
  go_enter Tryd.func11, Tryd.ntmps11
  go_wp2_with fail
  refine (first08_any _).mono ?_
  rintro e w1 ⟨rfl, hk1⟩
  have hz1 := hk1.size
  go_wp2_with fail
  refine (d_new 6 w1 (by omega) (by omega)).mono ?_
  rintro e w2 ⟨bd, Fd, rfl, hd2, hFd, hk2⟩
  go_wp2_with fail
  refine (f_new w2).mono ?_
  rintro e w3 ⟨bv, Fv, rfl, hv3, hFv, hk3⟩
  obtain ⟨F, hV, hFw⟩ := rtnew 6 w1 bd bv Fd Fv w2 w3 _ hd2 hFd hv3 hFv hk2 hk3
  have hkC : Keeps No w3 (w3.alloc (.cells #[.int .i64 0, .int .i64 0] 55)) := (Keeps.refl No w3).alloc _
  have hk03 := ((hk1.transNo hk2).transNo hk3).transNo hkC
  clear hd2 hv3 hFd hFv hkC hk2 hk3
  go_wp2_with fail
  generalize (w3.alloc (.cells #[.int .i64 0, .int .i64 0] 55)) = w4 at hV hk03 ⊢
  generalize w3.heap.size = bc at hV hFw ⊢
  have hR4 : KRel w bd bv bc 0 (.string ⟨#[]⟩) (.bool false) (.bool false) (.slice none 0 0) w4 := ⟨[], false, false, F, _, 0, rfl, rfl, rfl, hV, ⟨rfl, Nat.le_refl _, Nat.le_refl _, Nat.le_refl _, Nat.le_refl _, by simp [st0], good0 _ _, uniq0, fun _ h => absurd rfl h⟩, Seen.nil _ _, Nat.zero_le _, fun i h => (by cases h), fun i h => Nat.le_trans hz1 (hFw i h), hk03⟩
  clear hV hFw hk03
  have hfr : ∀ (G : Nat → Prop), (∀ i, G i → w.heap.size ≤ i) → ∀ (a : Option Addr) (n c : Nat) (xs : List Value), Sl w a n c xs → 0 < n → ¬ G (a.getD default).block := fun G hG a n c xs hs h0 h => by
    have := hs.lt h0
    have := hG _ h
    omega
  have Hfr := Lib.hid hfr
  clear hfr
  go_loopg [29, 7, 8, 9, 10] n1 (fun q i vnow vput vlaid vseen wr => ∃ j : Nat, j ≤ n1 ∧ q = n1 - j ∧ i = .int .i64 (j : Int) ∧ KRel w bd bv bc j vnow vput vlaid vseen wr)
  case atStart => exact ⟨0, Nat.zero_le _, rfl, rfl, hR4⟩
  case round =>
    clear hR4
    obtain ⟨j, hj, hq, rfl, N, put, laid, F, s, m, rfl, rfl, rfl, hT, hKS, hSn, hm2, hSw, hFw, hkr⟩ := hrel
    have Hq := Lib.hid hq
    clear hq
    by_cases hlt : j < n1
    case neg =>
      go_wp2_with fail
      go_ret
      exact ⟨rfl, hkr⟩
    have hlt' : j < L.length := by rw [Hlen.out]; exact hlt
    have hsr := hs1.kept hkr
    have hix := hsr.ix (P := Tryd.prog) Tryd.underlying83 opr_size hlt .i64
    obtain ⟨hld, _⟩ := hsr.load (P := Tryd.prog) (ty := 88) Tryd.underlying88 rfl opr_size hlt
    obtain ⟨o, ho⟩ : ∃ o, o = L[j] := ⟨_, rfl⟩
    have hxc : (L.map oprV).getD j [] = oprV o := by rw [ho]; simp [hlt']
    obtain ⟨⟨hB, hBn⟩, hKp, hKn⟩ := HL.out o (by rw [ho]; exact List.getElem_mem hlt')
    obtain ⟨⟨kd, hkd⟩, ⟨bl, hbl⟩, ⟨fr, hfr⟩, ⟨aB, nB, cB, pB⟩, ⟨aK, nK, cK, pK⟩⟩ := o
    rw [hxc, show (oprV (⟨kd, hkd⟩, ⟨bl, hbl⟩, ⟨fr, hfr⟩, ⟨aB, nB, cB, pB⟩, ⟨aK, nK, cK, pK⟩)).toArray = #[.int .i64 kd, .int .i64 bl, .int .i64 fr, .slice aB nB cB, .slice aK nK cK] from rfl] at hld
    simp only at hB hBn hKp hKn
    have hlB : pB.length = nB := by simpa using hB.len
    have HlB := Lib.hid hlB
    have hblw := wf_i64_iff hbl
    clear hxc ho hlB hsr hkd hbl hfr
    go_upto_region 10 with (refine wpList_loadV (op := ⟨some 33, _, _, _, _, _⟩) rfl 88 (.tmp 32) rfl _ rfl _ hld ?_)
    have hbN := heap_alloc_new wr (.cells #[.int .i64 kd, .int .i64 bl, .int .i64 fr, .slice aB nB cB, .slice aK nK cK] 88)
    have hkN : Keeps No wr (wr.alloc (.cells #[.int .i64 kd, .int .i64 bl, .int .i64 fr, .slice aB nB cB, .slice aK nK cK] 88)) := (Keeps.refl No wr).alloc _
    have hzN : (wr.alloc (.cells #[.int .i64 kd, .int .i64 bl, .int .i64 fr, .slice aB nB cB, .slice aK nK cK] 88)).heap.size = wr.heap.size + 1 := by simp
    generalize (wr.alloc (.cells #[.int .i64 kd, .int .i64 bl, .int .i64 fr, .slice aB nB cB, .slice aK nK cK] 88)) = w7 at hbN hkN hzN ⊢
    obtain ⟨x0, x1, x2, x3, x4⟩ := cells5r hbN
    have hk7 := hkr.transNo hkN
    have hT7 := hT.kept hkN
    have hSn7 := hSn.kept hkN
    have hnd0 : ∀ i, FC F bc i → i < wr.heap.size := hT.lt
    have m3 : ¬ FC F bc wr.heap.size := fun h => by have := hnd0 _ h; omega
    have hzN' : wr.heap.size < w7.heap.size := by omega
    clear hld hix hzN hT hSn
    by_cases h60 : 60 ≤ j
    · have hd60 : decide ((60 : Int) ≤ (j : Int)) = true := by simp; omega
      go_wp2_with fail
      go_ret
      exact ⟨rfl, hk7⟩
    have hd60 : decide ((60 : Int) ≤ (j : Int)) = false := by simp; omega
    by_cases hB300 : 300 < nB
    · have hdB : decide ((300 : Int) < (nB : Int)) = true := by simp; omega
      go_wp2_with fail
      go_ret
      exact ⟨rfl, hk7⟩
    have hdB : decide ((300 : Int) < (nB : Int)) = false := by simp; omega
    by_cases hK60 : 60 < nK
    · have hdK : decide ((60 : Int) < (nK : Int)) = true := by simp; omega
      go_wp2_with fail
      go_ret
      exact ⟨rfl, hk7⟩
    have hdK : decide ((60 : Int) < (nK : Int)) = false := by simp; omega
    have hj60 : j < 60 := by omega
    have hBd := Hfr.out (FC F bc) hFw _ _ _ _ hB
    have hKd := Hfr.out (FC F bc) hFw _ _ _ _ hKp
    go_upto_block 2 with fail
    generalize (IntKind.u64.wrap kd).tmod 6 = q
    go_cut [7, 8, 9] (fun vnow vput vlaid wx => KRel w bd bv bc (j + 1) vnow vput vlaid u10 wx)
    case first =>
      by_cases q0 : q = 0
      · as_aux_lemma =>
          have e0 : (q == 0) = true := by rw [beq_iff_eq]; exact q0
          clear q0
          have hcall := rput_any bd bv bc F s [] aB nB cB pB w7 hT7 (by have := hKS.al; omega) (by have := hKS.wl; omega) (by have := hKS.vl; omega) (hB.kept hk7) hBn
          unfold RPutPost at hcall
          have hc := hKS.puts (by omega) pB (by have := HlB.out; omega)
          generalize rput s [] pB = R at hcall hc
          go_wp2_with fail
          refine hcall.mono ?_
          rintro e w8 ⟨rfl, F8, hT8, hs8⟩
          clear hcall
          have hk8 : Keeps No w w8 := hk7.trans hs8.keeps (fun i hi h => absurd (hFw i h) (by omega))
          have hF8 : ∀ i, FC F8 bc i → w.heap.size ≤ i := fun i hi => (hs8.fresh i hi).elim (hFw i) (fun h => by have := hk7.size; omega)
          have hSn8 := hSn7.keep hs8.keeps (fun _ h => h) hs8.fresh
          have hb8 := hs8.keeps.blk hbN m3
          obtain ⟨_, z1, z2, z3, z4⟩ := cells5r hb8
          have hst8 := strB (hB.kept hk8)
          rcases hc with ⟨h1, h2⟩ | ⟨h1, h2⟩
          · have n1 : (R.2 == 0) = true := by rw [beq_iff_eq]; exact h1
            go_wp2_with fail
            go_meet
            exact ⟨pB, true, laid, F8, R.1, m, rfl, rfl, rfl, hT8, h2, hSn8, hm2, hSw, hF8, hk8⟩
          · have n1 : (R.2 == 0) = false := by rw [beq_eq_false_iff_ne]; omega
            go_wp2_with fail
            go_meet
            exact ⟨N, put, laid, F8, R.1, m, rfl, rfl, rfl, hT8, h2, hSn8, hm2, hSw, hF8, hk8⟩
      have e0 : (q == 0) = false := by rw [beq_eq_false_iff_ne]; exact q0
      clear q0
      by_cases q1 : q = 1
      · as_aux_lemma =>
          have e1 : (q == 1) = true := by rw [beq_iff_eq]; exact q1
          clear q1
          have hcall := rput_any bd bv bc F s [] aB nB cB pB w7 hT7 (by have := hKS.al; omega) (by have := hKS.wl; omega) (by have := hKS.vl; omega) (hB.kept hk7) hBn
          unfold RPutPost at hcall
          have hc := hKS.puts (by omega) pB (by have := HlB.out; omega)
          generalize rput s [] pB = R at hcall hc
          go_wp2_with fail
          refine hcall.mono ?_
          rintro e w8 ⟨rfl, F8, hT8, hs8⟩
          clear hcall
          have hk8 : Keeps No w w8 := hk7.trans hs8.keeps (fun i hi h => absurd (hFw i h) (by omega))
          have hF8 : ∀ i, FC F8 bc i → w.heap.size ≤ i := fun i hi => (hs8.fresh i hi).elim (hFw i) (fun h => by have := hk7.size; omega)
          have hSn8 := hSn7.keep hs8.keeps (fun _ h => h) hs8.fresh
          have hb8 := hs8.keeps.blk hbN m3
          obtain ⟨_, z1, z2, z3, z4⟩ := cells5r hb8
          have hst8 := strB (hB.kept hk8)
          rcases hc with ⟨h1, h2⟩ | ⟨h1, h2⟩
          · have n1 : (R.2 == 0) = true := by rw [beq_iff_eq]; exact h1
            go_wp2_with fail
            go_meet
            exact ⟨pB, true, laid, F8, R.1, m, rfl, rfl, rfl, hT8, h2, hSn8, hm2, hSw, hF8, hk8⟩
          · have n1 : (R.2 == 0) = false := by rw [beq_eq_false_iff_ne]; omega
            go_wp2_with fail
            go_meet
            exact ⟨N, put, laid, F8, R.1, m, rfl, rfl, rfl, hT8, h2, hSn8, hm2, hSw, hF8, hk8⟩
      have e1 : (q == 1) = false := by rw [beq_eq_false_iff_ne]; exact q1
      clear q1
      by_cases q2 : q = 2
      · as_aux_lemma =>
          have e2 : (q == 2) = true := by rw [beq_iff_eq]; exact q2
          clear q2
          have hcall := rt_limit bd bv bc F s [] w7 bl hT7 hblw.2
          go_wp2_with fail
          refine hcall.mono ?_
          rintro e w8 ⟨rfl, F8, hT8, hs8⟩
          clear hcall
          have hk8 : Keeps No w w8 := hk7.trans hs8.keeps (fun i hi h => absurd (hFw i h) (by omega))
          have hF8 : ∀ i, FC F8 bc i → w.heap.size ≤ i := fun i hi => (hs8.fresh i hi).elim (hFw i) (fun h => by have := hk7.size; omega)
          have hSn8 := hSn7.keep hs8.keeps (fun _ h => h) hs8.fresh
          have hb8 := hs8.keeps.blk hbN m3
          obtain ⟨_, z1, z2, z3, z4⟩ := cells5r hb8
          go_wp2_with fail
          go_meet
          exact ⟨N, put, laid, F8, _, m, rfl, rfl, rfl, hT8, hKS.dev (s.D.limit bl) laid rfl (Nat.le_refl _) (fun hl => safe_limit s bl (hKS.safe hl)), hSn8, hm2, hSw, hF8, hk8⟩
      have e2 : (q == 2) = false := by rw [beq_eq_false_iff_ne]; exact q2
      clear q2
      by_cases q3 : q = 3
      · as_aux_lemma =>
          have e3 : (q == 3) = true := by rw [beq_iff_eq]; exact q3
          clear q3
          have hcall := rt_crash bd bv bc F s [] w7 aK nK cK pK hT7 (hKp.kept hk7) hKd
          go_wp2_with fail
          refine hcall.mono ?_
          rintro e w8 ⟨rfl, F8, hT8, hs8⟩
          clear hcall
          have hk8 : Keeps No w w8 := hk7.trans hs8.keeps (fun i hi h => absurd (hFw i h) (by omega))
          have hF8 : ∀ i, FC F8 bc i → w.heap.size ≤ i := fun i hi => (hs8.fresh i hi).elim (hFw i) (fun h => by have := hk7.size; omega)
          have hSn8 := hSn7.keep hs8.keeps (fun _ h => h) hs8.fresh
          have hb8 := hs8.keeps.blk hbN m3
          obtain ⟨_, z1, z2, z3, z4⟩ := cells5r hb8
          go_wp2_with fail
          go_meet
          exact ⟨N, put, laid, F8, _, m, rfl, rfl, rfl, hT8, hKS.dev (s.D.crash pK) laid (crash_len7 s.D pK).1 (crash_len7 s.D pK).2 (fun hl => safe_crash s pK (hKS.safe hl)), hSn8, hm2, hSw, hF8, hk8⟩
      have e3 : (q == 3) = false := by rw [beq_eq_false_iff_ne]; exact q3
      clear q3
      by_cases q4 : q = 4
      · as_aux_lemma =>
          have e4 : (q == 4) = true := by rw [beq_iff_eq]; exact q4
          clear q4
          obtain ⟨t, ht, ht', ht6⟩ := umod bl 6 (by omega)
          have hwt : IntKind.i64.wrap (t : Int) = (t : Int) := by rw [IntKind.wrap_i64]; omega
          have hBle := hB.le
          obtain ⟨M, hMn⟩ : ∃ M, min nB 16 = M := ⟨_, rfl⟩
          have hMi : min (nB : Int) 16 = (M : Int) := by omega
          have hmc : M ≤ cB := by omega
          have hsM := hB.takev (k := M) (by omega)
          rw [← List.map_take] at hsM
          go_wp2_with fail
          refine wp_region_held_drew (S := fun wx => wx.cell? ⟨wr.heap.size, 1, none⟩ = some (.int .i64 bl) ∧ wx.cell? ⟨wr.heap.size, 3, none⟩ = some (.slice aB nB cB)) (by kernel_rfl) (⟨x1, x3⟩) (fun hS => ?_)
          refine tk (i := 0) (oi := ⟨some 100, _, _, _, _, _⟩) (v := ?_) rfl (by kernel_rfl) (fun _ _ _ h => h) (by assumption) (by rfl) (fun w hSw => ?_) ?_; rotate_left; (focus (first | (go_simp; done) | (go_simp; with_reducible rfl))); simp only [Act.put, List.setIfInBounds_toArray, List.set_cons_zero, List.set_cons_succ]
          refine tk (i := 1) (oi := ⟨some 101, _, _, _, _, _⟩) (v := ?_) rfl (by kernel_rfl) (fun _ _ _ h => h) (by assumption) (by rfl) (fun w hSw => ?_) ?_; rotate_left; (focus (first | (go_simp; done) | (go_simp; with_reducible rfl))); simp only [Act.put, List.setIfInBounds_toArray, List.set_cons_zero, List.set_cons_succ]
          refine tk (i := 2) (oi := ⟨some 102, _, _, _, _, _⟩) (v := ?_) rfl (by kernel_rfl) (fun _ _ _ h => h) (by assumption) (by rfl) (fun w hSw => ?_) ?_; rotate_left; (focus (first | (go_simp; done) | (go_simp; with_reducible rfl))); simp only [Act.put, List.setIfInBounds_toArray, List.set_cons_zero, List.set_cons_succ]
          refine tk (i := 3) (oi := ⟨some 103, _, _, _, _, _⟩) (v := ?_) rfl (by kernel_rfl) (fun _ _ _ h => h) (by assumption) (by rfl) (fun w hSw => ?_) ?_; rotate_left; (focus (first | (go_simp; done) | (go_simp; with_reducible rfl))); simp only [Act.put, List.setIfInBounds_toArray, List.set_cons_zero, List.set_cons_succ]
          refine tk (i := 4) (oi := ⟨some 104, _, _, _, _, _⟩) (v := ?_) rfl (by kernel_rfl) (fun _ _ _ h => h) (by assumption) (by rfl) (fun w hSw => ?_) ?_; rotate_left; (focus (first | (go_simp; done) | (go_simp; with_reducible rfl))); simp only [Act.put, List.setIfInBounds_toArray, List.set_cons_zero, List.set_cons_succ]
          refine tk (i := 5) (oi := ⟨some 105, _, _, _, _, _⟩) (v := ?_) rfl (by kernel_rfl) (fun _ _ _ h => h) (by assumption) (by rfl) (fun w hSw => ?_) ?_; rotate_left; (focus (first | (go_simp; done) | (go_simp; with_reducible rfl))); simp only [Act.put, List.setIfInBounds_toArray, List.set_cons_zero, List.set_cons_succ]
          refine tk (i := 6) (oi := ⟨some 106, _, _, _, _, _⟩) (v := ?_) rfl (by kernel_rfl) (fun _ _ _ h => h) (by assumption) (by rfl) (fun w hSw => ?_) ?_; rotate_left; (focus (first | (go_simp; done) | (go_simp; with_reducible rfl))); simp only [Act.put, List.setIfInBounds_toArray, List.set_cons_zero, List.set_cons_succ]
          refine tk (i := 7) (oi := ⟨some 107, _, _, _, _, _⟩) (v := ?_) rfl (by kernel_rfl) (fun _ _ _ h => h) (by assumption) (by rfl) (fun w hSw => ?_) ?_; rotate_left; (focus (first | (go_simp; done) | (go_simp; with_reducible rfl))); simp only [Act.put, List.setIfInBounds_toArray, List.set_cons_zero, List.set_cons_succ]
          refine tk (i := 8) (oi := ⟨some 108, _, _, _, _, _⟩) (v := ?_) rfl (by kernel_rfl) (fun _ _ _ h => h) (by assumption) (by rfl) (fun w hSw => ?_) ?_; rotate_left; (focus (first | (go_simp; done) | (go_simp; with_reducible rfl))); simp only [Act.put, List.setIfInBounds_toArray, List.set_cons_zero, List.set_cons_succ]
          refine tk (i := 9) (oi := ⟨some 109, _, _, _, _, _⟩) (v := ?_) rfl (by kernel_rfl) (fun _ _ _ h => h) (by assumption) (by rfl) (fun w hSw => ?_) ?_; rotate_left; (focus (first | (go_simp; done) | (go_simp; with_reducible rfl))); simp only [Act.put, List.setIfInBounds_toArray, List.set_cons_zero, List.set_cons_succ]
          refine tk (i := 10) (oi := ⟨some 110, _, _, _, _, _⟩) (v := ?_) rfl (by kernel_rfl) (fun _ _ _ h => h) (by assumption) (by rfl) (fun w hSw => ?_) ?_; rotate_left; (focus (first | (go_simp; done) | (go_simp; with_reducible rfl))); simp only [Act.put, List.setIfInBounds_toArray, List.set_cons_zero, List.set_cons_succ]
          refine tk (i := 11) (oi := ⟨some 111, _, _, _, _, _⟩) (v := ?_) rfl (by kernel_rfl) (fun _ _ _ h => h) (by assumption) (by rfl) (fun w hSw => ?_) ?_; rotate_left; (focus (first | (go_simp; done) | (go_simp; with_reducible rfl))); simp only [Act.put, List.setIfInBounds_toArray, List.set_cons_zero, List.set_cons_succ]
          refine tk (i := 12) (oi := ⟨some 112, _, _, _, _, _⟩) (v := ?_) rfl (by kernel_rfl) (fun _ _ _ h => h) (by assumption) (by rfl) (fun w hSw => ?_) ?_; rotate_left; (focus (first | (go_simp; done) | (go_simp; with_reducible rfl))); simp only [Act.put, List.setIfInBounds_toArray, List.set_cons_zero, List.set_cons_succ]
          refine alone (i := 13) (oi := ⟨some 113, _, _, _, _, _⟩) rfl (by kernel_rfl) (by rfl) (fun K hK => ?_); go_simp
          refine (rt_over bd bv bc F s [] w7.drew (t : Int) aB M cB (pB.take M) (hT7.kept (Keeps.refl No w7).drew) (hsM.kept hk7.drew) (by omega) (fun h0 => hBd (by omega))).mono ?_
          rintro e w8 ⟨rfl, F8, hT8, hs8⟩
          have hk8 : Keeps No w w8 := hk7.drew.trans hs8.keeps (fun i hi h => absurd (hFw i h) (by omega))
          have hF8 : ∀ i, FC F8 bc i → w.heap.size ≤ i := fun i hi => (hs8.fresh i hi).elim (hFw i) (fun h => by have := hk7.drew.size; omega)
          have hSn8 := (hSn7.kept (Keeps.refl No w7).drew).keep hs8.keeps (fun _ h => h) hs8.fresh
          have hb8 := hs8.keeps.blk (show w7.drew.heap[wr.heap.size]? = _ from hbN) m3
          obtain ⟨_, z1, z2, z3, z4⟩ := cells5r hb8
          go_simp
          refine hK.out (fun wx => wx.cell? ⟨wr.heap.size, 1, none⟩ = some (.int .i64 bl) ∧ wx.cell? ⟨wr.heap.size, 3, none⟩ = some (.slice aB nB cB)) _ _ (fun _ h => h) (⟨z1, z3⟩) ?_
          clear hK K hS
          intro hS
          refine wpAnyH_done (by kernel_rfl) ?_ _
          go_wp2_with fail
          go_meet
          exact ⟨N, put, true, F8, _, m, rfl, rfl, rfl, hT8, hKS.dev (s.D.over (t : Int) (pB.take M)).1 true (over_len7 s.D t (pB.take M)).1 (over_len7 s.D t (pB.take M)).2 (fun h => (by cases h)), hSn8, hm2, hSw, hF8, hk8⟩
      have e4 : (q == 4) = false := by rw [beq_eq_false_iff_ne]; exact q4
      clear q4
      by_cases hm0 : m = 0
      · subst hm0
        obtain ⟨vs, r1, r2, r3⟩ := id hSn7
        obtain ⟨ar, cr, rfl, hsr, _⟩ := Sl.ofOwn r1
        go_wp2_with fail
        go_meet
        exact ⟨N, put, laid, F, s, 0, rfl, rfl, rfl, hT7, hKS.more, hSn7, hm2, hSw, hFw, hk7⟩
      · as_aux_lemma =>
          obtain ⟨t, ht, ht', ht6⟩ := umod bl 6 (by omega)
          have hwt : IntKind.i64.wrap (t : Int) = (t : Int) := by rw [IntKind.wrap_i64]; omega
          obtain ⟨u, hu, hu', hum⟩ := umod fr (m : Int) (by omega)
          have hwu : IntKind.i64.wrap (u : Int) = (u : Int) := by rw [IntKind.wrap_i64]; omega
          have hwm2 : IntKind.u64.wrap (m : Int) = (m : Int) := by rw [IntKind.wrap_u64]; omega
          have hum' : u < m := by omega
          obtain ⟨vs, r1, r2, r3⟩ := id hSn7
          obtain ⟨gS, cS, rfl⟩ := own_form r1 (by omega)
          obtain ⟨ar, cr, hre, hsr, _⟩ := Sl.ofOwn r1
          obtain ⟨rfl, rfl⟩ : some ⟨gS, 0, none⟩ = ar ∧ cS = cr := by
            simp only [Value.slice.injEq, true_and] at hre
            exact ⟨hre.1, hre.2⟩
          obtain ⟨gt, ct, pt, g1, g2, g3, g4⟩ := r3 u hum'
          have hix := hsr.ix (P := Tryd.prog) Tryd.underlying47 (by kernel_rfl) hum' .i64
          have hcu := hsr.cell u hum'
          rw [g1] at hcu
          simp only [Option.getD_some, Addr.add_lit, Nat.zero_add] at hix hcu
          have hdm : decide ((0 : Int) < (m : Int)) = true := by simp; omega
          go_wp2_with fail
          refine wp_region_held_drew (S := fun wx => wx.cell? ⟨wr.heap.size, 1, none⟩ = some (.int .i64 bl) ∧ wx.cell? ⟨wr.heap.size, 2, none⟩ = some (.int .i64 fr) ∧ wx.cell? ⟨gS, u, none⟩ = some (.slice (some ⟨gt, 0, none⟩) 16 ct)) (by kernel_rfl) (⟨x1, x2, hcu⟩) (fun hS => ?_)
          refine tk (i := 0) (oi := ⟨some 55, _, _, _, _, _⟩) (v := ?_) rfl (by kernel_rfl) (fun _ _ _ h => h) (by assumption) (by rfl) (fun w hSw => ?_) ?_; rotate_left; (focus (first | (go_simp; done) | (go_simp; with_reducible rfl))); simp only [Act.put, List.setIfInBounds_toArray, List.set_cons_zero, List.set_cons_succ]
          refine tk (i := 1) (oi := ⟨some 56, _, _, _, _, _⟩) (v := ?_) rfl (by kernel_rfl) (fun _ _ _ h => h) (by assumption) (by rfl) (fun w hSw => ?_) ?_; rotate_left; (focus (first | (go_simp; done) | (go_simp; with_reducible rfl))); simp only [Act.put, List.setIfInBounds_toArray, List.set_cons_zero, List.set_cons_succ]
          refine tk (i := 2) (oi := ⟨some 57, _, _, _, _, _⟩) (v := ?_) rfl (by kernel_rfl) (fun _ _ _ h => h) (by assumption) (by rfl) (fun w hSw => ?_) ?_; rotate_left; (focus (first | (go_simp; done) | (go_simp; with_reducible rfl))); simp only [Act.put, List.setIfInBounds_toArray, List.set_cons_zero, List.set_cons_succ]
          refine tk (i := 3) (oi := ⟨some 58, _, _, _, _, _⟩) (v := ?_) rfl (by kernel_rfl) (fun _ _ _ h => h) (by assumption) (by rfl) (fun w hSw => ?_) ?_; rotate_left; (focus (first | (go_simp; done) | (go_simp; with_reducible rfl))); simp only [Act.put, List.setIfInBounds_toArray, List.set_cons_zero, List.set_cons_succ]
          refine tk (i := 4) (oi := ⟨some 59, _, _, _, _, _⟩) (v := ?_) rfl (by kernel_rfl) (fun _ _ _ h => h) (by assumption) (by rfl) (fun w hSw => ?_) ?_; rotate_left; (focus (first | (go_simp; done) | (go_simp; with_reducible rfl))); simp only [Act.put, List.setIfInBounds_toArray, List.set_cons_zero, List.set_cons_succ]
          refine tk (i := 5) (oi := ⟨some 60, _, _, _, _, _⟩) (v := ?_) rfl (by kernel_rfl) (fun _ _ _ h => h) (by assumption) (by rfl) (fun w hSw => ?_) ?_; rotate_left; (focus (first | (go_simp; done) | (go_simp; with_reducible rfl))); simp only [Act.put, List.setIfInBounds_toArray, List.set_cons_zero, List.set_cons_succ]
          refine tk (i := 6) (oi := ⟨some 61, _, _, _, _, _⟩) (v := ?_) rfl (by kernel_rfl) (fun _ _ _ h => h) (by assumption) (by rfl) (fun w hSw => ?_) ?_; rotate_left; (focus (first | (go_simp; done) | (go_simp; with_reducible rfl))); simp only [Act.put, List.setIfInBounds_toArray, List.set_cons_zero, List.set_cons_succ]
          refine tk (i := 7) (oi := ⟨some 62, _, _, _, _, _⟩) (v := ?_) rfl (by kernel_rfl) (fun _ _ _ h => h) (by assumption) (by rfl) (fun w hSw => ?_) ?_; rotate_left; (focus (first | (go_simp; done) | (go_simp; with_reducible rfl))); simp only [Act.put, List.setIfInBounds_toArray, List.set_cons_zero, List.set_cons_succ]
          refine tk (i := 8) (oi := ⟨some 63, _, _, _, _, _⟩) (v := ?_) rfl (by kernel_rfl) (fun _ _ _ h => h) (by assumption) (by rfl) (fun w hSw => ?_) ?_; rotate_left; (focus (first | (go_simp; done) | (go_simp; with_reducible rfl))); simp only [Act.put, List.setIfInBounds_toArray, List.set_cons_zero, List.set_cons_succ]
          refine tk (i := 9) (oi := ⟨some 64, _, _, _, _, _⟩) (v := ?_) rfl (by kernel_rfl) (fun _ _ _ h => h) (by assumption) (by rfl) (fun w hSw => ?_) ?_; rotate_left; (focus (first | (go_simp; done) | (go_simp; with_reducible rfl))); simp only [Act.put, List.setIfInBounds_toArray, List.set_cons_zero, List.set_cons_succ]
          refine tk (i := 10) (oi := ⟨some 65, _, _, _, _, _⟩) (v := ?_) rfl (by kernel_rfl) (fun _ _ _ h => h) (by assumption) (by rfl) (fun w hSw => ?_) ?_; rotate_left; (focus (first | (go_simp; done) | (go_simp; with_reducible rfl))); simp only [Act.put, List.setIfInBounds_toArray, List.set_cons_zero, List.set_cons_succ]
          refine tk (i := 11) (oi := ⟨some 66, _, _, _, _, _⟩) (v := ?_) rfl (by kernel_rfl) (fun _ _ _ h => h) (by assumption) (by rfl) (fun w hSw => ?_) ?_; rotate_left; (focus (first | (go_simp; done) | (go_simp; with_reducible rfl))); simp only [Act.put, List.setIfInBounds_toArray, List.set_cons_zero, List.set_cons_succ]
          refine tk (i := 12) (oi := ⟨some 67, _, _, _, _, _⟩) (v := ?_) rfl (by kernel_rfl) (fun _ _ _ h => h) (by assumption) (by rfl) (fun w hSw => ?_) ?_; rotate_left; (focus (first | (go_simp; done) | (go_simp; with_reducible rfl))); simp only [Act.put, List.setIfInBounds_toArray, List.set_cons_zero, List.set_cons_succ]
          refine tk (i := 13) (oi := ⟨some 68, _, _, _, _, _⟩) (v := ?_) rfl (by kernel_rfl) (fun _ _ _ h => h) (by assumption) (by rfl) (fun w hSw => ?_) ?_; rotate_left; (focus (first | (go_simp; done) | (go_simp; with_reducible rfl))); simp only [Act.put, List.setIfInBounds_toArray, List.set_cons_zero, List.set_cons_succ]
          refine tk (i := 14) (oi := ⟨some 69, _, _, _, _, _⟩) (v := ?_) rfl (by kernel_rfl) (fun _ _ _ h => h) (by assumption) (by rfl) (fun w hSw => ?_) ?_; rotate_left; (focus (first | (go_simp; done) | (go_simp; with_reducible rfl))); simp only [Act.put, List.setIfInBounds_toArray, List.set_cons_zero, List.set_cons_succ]
          refine tk (i := 15) (oi := ⟨some 70, _, _, _, _, _⟩) (v := ?_) rfl (by kernel_rfl) (fun _ _ _ h => h) (by assumption) (by rfl) (fun w hSw => ?_) ?_; rotate_left; (focus (first | (go_simp; done) | (go_simp; with_reducible rfl))); simp only [Act.put, List.setIfInBounds_toArray, List.set_cons_zero, List.set_cons_succ]
          refine tk (i := 16) (oi := ⟨some 71, _, _, _, _, _⟩) (v := ?_) rfl (by kernel_rfl) (fun _ _ _ h => h) (by assumption) (by rfl) (fun w hSw => ?_) ?_; rotate_left; (focus (first | (go_simp; done) | (go_simp; with_reducible rfl))); simp only [Act.put, List.setIfInBounds_toArray, List.set_cons_zero, List.set_cons_succ]
          refine alone (i := 17) (oi := ⟨some 72, _, _, _, _, _⟩) rfl (by kernel_rfl) (by rfl) (fun K hK => ?_); go_simp
          refine (rt_over bd bv bc F s [] w7.drew (t : Int) (some ⟨gt, 0, none⟩) 16 ct pt (hT7.kept (Keeps.refl No w7).drew) (g2.kept (Keeps.refl No w7).drew) (by omega) (fun _ => g3)).mono ?_
          rintro e w8 ⟨rfl, F8, hT8, hs8⟩
          have hk8 : Keeps No w w8 := hk7.drew.trans hs8.keeps (fun i hi h => absurd (hFw i h) (by omega))
          have hF8 : ∀ i, FC F8 bc i → w.heap.size ≤ i := fun i hi => (hs8.fresh i hi).elim (hFw i) (fun h => by have := hk7.drew.size; omega)
          have hSn8 := (hSn7.kept (Keeps.refl No w7).drew).keep hs8.keeps (fun _ h => h) hs8.fresh
          have hb8 := hs8.keeps.blk (show w7.drew.heap[wr.heap.size]? = _ from hbN) m3
          obtain ⟨_, z1, z2, z3, z4⟩ := cells5r hb8
          have hcu8 := hs8.keeps.cell (show w7.drew.cell? ⟨gS, u, none⟩ = _ from hcu) (r2 gS rfl)
          go_simp
          refine hK.out (fun wx => wx.cell? ⟨wr.heap.size, 1, none⟩ = some (.int .i64 bl) ∧ wx.cell? ⟨wr.heap.size, 2, none⟩ = some (.int .i64 fr) ∧ wx.cell? ⟨gS, u, none⟩ = some (.slice (some ⟨gt, 0, none⟩) 16 ct)) _ _ (fun _ h => h) (⟨z1, z2, hcu8⟩) ?_
          clear hK K hS
          intro hS
          refine wpAnyH_done (by kernel_rfl) ?_ _
          go_wp2_with fail
          go_meet
          exact ⟨N, put, true, F8, _, m, rfl, rfl, rfl, hT8, hKS.dev (s.D.over (t : Int) pt).1 true (over_len7 s.D t pt).1 (over_len7 s.D t pt).2 (fun h => (by cases h)), hSn8, hm2, hSw, hF8, hk8⟩
    case rest =>
      clear hKS hSn7 hT7 hFw hm2 hSw hBd hKd hbN x0 x1 x2 x3 x4 hkr hkN hk7 m3
      obtain ⟨N, put, laid, F, s, m, rfl, rfl, rfl, hT, hS, hSn, hm2, hSw, hFw, hk⟩ := hcut
      go_wp2_with fail
      go_loopg [114, 10] 2 (fun q i vseen wx => ∃ (k m : Nat), k ≤ 2 ∧ q = 2 - k ∧ i = .int .i64 (k : Int) ∧ RT wx bd bv bc F s [] ∧ Seen wx (FC F bc) vseen m ∧ m ≤ 200 ∧ (∀ i, vseen.ownBlock = some i → w.heap.size ≤ i) ∧ Keeps No w wx)
      case atStart => exact ⟨0, m, by omega, rfl, rfl, hT, hSn, hm2, hSw, hk⟩
      case round =>
        clear hT hSn hm2 hSw hk
        obtain ⟨k, m, hk2, hq, rfl, hT, hSn, hm2, hSw, hk⟩ := hrel
        have Hq2 := Lib.hid hq
        clear hq
        by_cases hlt2 : k < 2
        · have hok : s.D.Ok := by obtain ⟨Fd, hd, _⟩ := hT.1.dev; exact hd.ok
          have h16 := read16 s.D hok (k : Int)
          have hcall := rt_read bd bv bc F s [] wr (k : Int) hT
          generalize s.D.read (k : Int) = R at hcall h16
          go_wp2_with fail
          refine hcall.mono ?_
          rintro e w8 ⟨v8, rfl, hown8, hk8⟩
          clear hcall
          have hT8 := hT.kept hk8
          have hSn8 := hSn.kept hk8
          have hk08 := hk.transNo hk8
          by_cases hR0 : R.2 = 0
          case neg =>
            have n1 : (R.2 == 0) = false := by rw [beq_eq_false_iff_ne]; exact hR0
            obtain ⟨a8, c8, rfl, hs8, _⟩ := Sl.ofOwn hown8
            clear hR0 h16
            go_wp2_with fail
            go_roundg (2 - (k + 1))
            case measure => have := Hq2.out; omega
            case rel => exact ⟨k + 1, m, by omega, rfl, by go_num, hT8, hSn8, hm2, hSw, hk08⟩
          have n1 : (R.2 == 0) = true := by rw [beq_iff_eq]; exact hR0
          have hlen16 := h16 hR0
          rw [hlen16] at hown8
          obtain ⟨g8, c8, rfl⟩ := own_form hown8 (by omega)
          obtain ⟨a8, c8', he8, hs8, _⟩ := Sl.ofOwn hown8
          obtain ⟨rfl, rfl⟩ : some ⟨g8, 0, none⟩ = a8 ∧ c8 = c8' := by
            simp only [Value.slice.injEq, true_and] at he8
            exact ⟨he8.1, he8.2⟩
          have hg8 := hown8.lt g8 rfl
          clear hR0 h16 he8 hown8
          by_cases hm200 : m < 200
          case neg =>
            have n2 : decide ((m : Int) < 200) = false := by simp; omega
            obtain ⟨vs, r1, r2, r3⟩ := id hSn8
            obtain ⟨asn, csn, rfl, _, _⟩ := Sl.ofOwn r1
            go_wp2_with fail
            go_roundg (2 - (k + 1))
            case measure => have := Hq2.out; omega
            case rel => exact ⟨k + 1, m, by omega, rfl, by go_num, hT8, hSn8, hm2, hSw, hk08⟩
          have n2 : decide ((m : Int) < 200) = true := by simp; omega
          have hkC : Keeps No w8 (w8.alloc (.cells #[.slice (some ⟨g8, 0, none⟩) 16 c8] 35)) := (Keeps.refl No _).alloc _
          have hSn9 := hSn8.kept hkC
          have hT9 := hT8.kept hkC
          have h9lt := hT9.lt
          have hltT := hT.lt
          have hs9 := hs8.kept hkC
          have hk09 := hk08.transNo hkC
          obtain ⟨vs0, q1, _⟩ := id hSn
          have rb : u10.ownBlock ≠ some g8 := fun h => by have := (q1.lt _ h).2; omega
          obtain ⟨vs, r1, r2, r3⟩ := id hSn9
          obtain ⟨asn, csn, hes, _, _⟩ := Sl.ofOwn r1
          subst hes
          have hSl := SlK.one w8 [.slice (some ⟨g8, 0, none⟩) 16 c8] 35 (k := 1) rfl
          clear q1 hs8
          go_wp2_with (at_builtin; refine app_ownK rfl (.tmp 130) (.tmp 132) 47 rfl 0 35 (.slice none 0 0) 1 24 Tryd.underlying47 bytes_info8 rfl (by decide) (by decide) _ m vs rfl r1 _ 1 1 [[.slice (some ⟨g8, 0, none⟩) 16 c8]] rfl hSl ?h1 ?hb (Nat.zero_le _) ?_)
          case h1 => intro u hu; simp at hu; subst hu; rfl
          case hb => omega
          intro va wa howna hga hata
          have hSna : Seen wa (FC F bc) va (m + 1) := Seen.push vs r1 r2 r3 (by simpa using howna) hga (fun i hi => (hata i hi).elim .inl (fun h => .inr (by rw [h]; simp))) h9lt hs9 (fun h => by have := hltT _ h; omega) rb
          have hkG : Keeps (fun i => (Value.slice asn m csn).ownBlock = some i) _ wa := (Keeps.refl _ _).grown hga (fun i hi _ => hi)
          have hTa := hT9.keep hkG (fun i hi h => r2 i h hi)
          have hka : Keeps No w wa := hk09.trans hkG (fun i hi h => absurd (hSw i h) (by omega))
          have hSwa : ∀ i, va.ownBlock = some i → w.heap.size ≤ i := fun i hi => (hata i hi).elim (hSw i) (fun h => by have := hk08.size; rw [h]; omega)
          clear howna hga hata r1 r2 r3 hs9 hT9
          go_wp2_with fail
          go_roundg (2 - (k + 1))
          case measure => have := Hq2.out; omega
          case rel => exact ⟨k + 1, m + 1, by omega, rfl, by go_num, hTa, hSna, by omega, hSwa, hka⟩
        obtain rfl : k = 2 := by omega
        have hb1 := hS.al
        have hb2 := hS.vl
        have hb3 := hS.ml
        have hcall := rget_any bd bv bc F s [] wr hT (by omega) (by omega) (by omega)
        have hput := hS.put
        by_cases h0 : s.ver = 0
        · obtain rfl : put = false := by
            cases put with
            | false => rfl
            | true => exact absurd h0 (hput.1 rfl)
          rw [rget_zero s [] h0] at hcall
          go_wp2_with fail
          refine hcall.mono ?_
          rintro e w8 ⟨v8, rfl, hk8, hown8⟩
          obtain ⟨a8, c8, rfl, hs8, _⟩ := Sl.ofOwn hown8
          clear hcall h0 hput
          go_wp2_with fail
          go_roundg (n1 - (j + 1))
          case measure => have := Hq.out; omega
          case rel => exact ⟨j + 1, by omega, rfl, by go_num, N, false, laid, F, s, m, rfl, rfl, rfl, hT.kept hk8, hS, hSn.kept hk8, hm2, hSw, hFw, hk.transNo hk8⟩
        obtain rfl : put = true := hput.2 h0
        rcases rget_kept s N laid hS.good hS.uniq hS.safe (by rw [hS.len]; omega) h0 (by omega) (by omega) (by omega) with h | h | ⟨h, rfl⟩
        · rw [h] at hcall
          clear h h0 hput
          go_wp2_with fail
          refine hcall.mono ?_
          rintro e w8 ⟨v8, rfl, hk8, hown8⟩
          obtain ⟨a8, c8, rfl, hs8, _⟩ := Sl.ofOwn hown8
          have hst8 := strB hs8
          clear hcall
          go_wp2_with fail
          go_roundg (n1 - (j + 1))
          case measure => have := Hq.out; omega
          case rel => exact ⟨j + 1, by omega, rfl, by go_num, N, true, laid, F, s, m, rfl, rfl, rfl, hT.kept hk8, hS, hSn.kept hk8, hm2, hSw, hFw, hk.transNo hk8⟩
        · rw [h] at hcall
          clear h h0 hput
          go_wp2_with fail
          refine hcall.mono ?_
          rintro e w8 ⟨v8, rfl, hk8, hown8⟩
          obtain ⟨a8, c8, rfl, hs8, _⟩ := Sl.ofOwn hown8
          clear hcall
          go_wp2_with fail
          go_roundg (n1 - (j + 1))
          case measure => have := Hq.out; omega
          case rel => exact ⟨j + 1, by omega, rfl, by go_num, N, true, laid, F, s, m, rfl, rfl, rfl, hT.kept hk8, hS, hSn.kept hk8, hm2, hSw, hFw, hk.transNo hk8⟩
        · rw [h] at hcall
          clear h h0 hput
          go_wp2_with fail
          refine hcall.mono ?_
          rintro e w8 ⟨v8, rfl, hk8, hown8⟩
          obtain ⟨a8, c8, rfl, hs8, _⟩ := Sl.ofOwn hown8
          clear hcall
          go_wp2_with fail
          go_roundg (n1 - (j + 1))
          case measure => have := Hq.out; omega
          case rel => exact ⟨j + 1, by omega, rfl, by go_num, N, true, true, F, s, m, rfl, rfl, rfl, hT.kept hk8, hS, hSn.kept hk8, hm2, hSw, hFw, hk.transNo hk8⟩
theorem rootKeeps_walk (a1 : Option Addr) (n1 c1 : Nat) (L : List OPR) (w : World) (hs1 : SlK w 5 a1 n1 c1 (L.map oprV)) (hL : ∀ o ∈ L, OprOk w o) :
    Calls Tryd.prog 11 #[.slice a1 n1 c1] w fun e w' => e = .returned (.bool true) ∧ Keeps No w w' := rootKeeps_any a1 n1 c1 L w hs1 hL
end Go.Proofs.YthimnkmoeonheaaDoor
