/- The walk of PagePlays. -/
import Derived.Test.YthimnkmoeonheaaDoorLawSevenT
import Derived.Test.YthimnkmoeonheaaDoorRowKit
import Derived.Deep.DeepCutAuto
import Derived.Deep.CutRange
import Derived.Deep.CutBlock
namespace Go.Proofs.YthimnkmoeonheaaDoor
open Go.RowKit
set_option linter.unusedSimpArgs false
set_option linter.unusedVariables false
set_option maxRecDepth 100000

abbrev I64P := {n : Int // (Lit.int .i64 n).wf = true}
abbrev OPP := I64P × I64P × I64P × PG × (Option Addr × Nat × Nat × List UInt8) × (Option Addr × Nat × Nat × List Bool)
def oppV (o : OPP) : List Value := [.int .i64 o.1.1] ++ ([.int .i64 o.2.1.1] ++ ([.int .i64 o.2.2.1.1] ++ ((([.int .i64 o.2.2.2.1.1.1.1] ++ ([.int .i64 o.2.2.2.1.1.2.1.1] ++ [.int .i64 o.2.2.2.1.1.2.2.1])) ++ ([.int .i64 o.2.2.2.1.2.1.1] ++ [.int .i64 o.2.2.2.1.2.2.1])) ++ ([.slice o.2.2.2.2.1.1 o.2.2.2.2.1.2.1 o.2.2.2.2.1.2.2.1] ++ [.slice o.2.2.2.2.2.1 o.2.2.2.2.2.2.1 o.2.2.2.2.2.2.2.1]))))
def OppOk (w : World) (o : OPP) : Prop := (Sl w o.2.2.2.2.1.1 o.2.2.2.2.1.2.1 o.2.2.2.2.1.2.2.1 (o.2.2.2.2.1.2.2.2.map byteV) ∧ o.2.2.2.2.1.2.1 ≤ 140737488351232) ∧ Sl w o.2.2.2.2.2.1 o.2.2.2.2.2.2.1 o.2.2.2.2.2.2.2.1 (o.2.2.2.2.2.2.2.2.map Value.bool) ∧ o.2.2.2.2.2.2.1 ≤ 140737488351232
theorem opp_size : (Tryd.prog.info? 72).map (·.size) = some 10 := by kernel_rfl
theorem cells10 {w : World} {g : Nat} {a b c d e f h i j k : Value} {t : TypeId} (hg : w.heap[g]? = some (.cells #[a, b, c, d, e, f, h, i, j, k] t (0, 0))) :
    w.cell? ⟨g, 0, none⟩ = some a ∧ w.cell? ⟨g, 1, none⟩ = some b ∧ w.cell? ⟨g, 2, none⟩ = some c ∧ w.cell? ⟨g, 3, none⟩ = some d ∧ w.cell? ⟨g, 4, none⟩ = some e ∧ w.cell? ⟨g, 5, none⟩ = some f ∧ w.cell? ⟨g, 6, none⟩ = some h ∧ w.cell? ⟨g, 7, none⟩ = some i ∧ w.cell? ⟨g, 8, none⟩ = some j ∧ w.cell? ⟨g, 9, none⟩ = some k :=
  ⟨cell_of_row w g 0 _ _ (0, 0) hg, cell_of_row w g 1 _ _ (0, 0) hg, cell_of_row w g 2 _ _ (0, 0) hg, cell_of_row w g 3 _ _ (0, 0) hg, cell_of_row w g 4 _ _ (0, 0) hg, cell_of_row w g 5 _ _ (0, 0) hg, cell_of_row w g 6 _ _ (0, 0) hg, cell_of_row w g 7 _ _ (0, 0) hg, cell_of_row w g 8 _ _ (0, 0) hg, cell_of_row w g 9 _ _ (0, 0) hg⟩

theorem read_len7 (D : DS) (F : Nat → Prop) (A : List AE) (G : List K3) (bd bv : Nat) (w : World) (h : PV w bd bv F D A G) (i : Int) : (D.read i).1.length ≤ 140737488351232 := by
  obtain ⟨Fd, hd, _⟩ := h.dev
  exact read_len D hd.ok i
/-- What an act leaves. -/
def PgCut (w : World) (bd bv br bw n j gO : Nat) (opc : Array Value) (s12 s13 : Value) (wx : World) : Prop :=
  ∃ (D : DS) (A : List AE) (G : List K3) (F H : Nat → Prop) (e : Int), s12 = .int .i64 e ∧ s13 = .int .i64 e ∧ Twn w.heap.size bd bv br bw F H D A G wx ∧ D.K.length = n ∧ D.W.length ≤ j + 1 ∧ A.length ≤ j + 1 ∧ G.length ≤ j + 1 ∧ wx.heap[gO]? = some (.cells opc 72 (0, 0)) ∧ ¬ F gO ∧ ¬ H gO ∧ Keeps No w wx
theorem PgCut.mk' {w W w1 w2 : World} {bd bv br bw n j gO : Nat} {opc : Array Value} {F H F' H' : Nat → Prop} {D D' : DS} {A A' : List AE} {G G' : List K3} {e : Int} (hP : Twn w.heap.size bd bv br bw F H D A G W) (hk : Keeps No w W)
    (hO : W.heap[gO]? = some (.cells opc 72 (0, 0))) (n3 : ¬ F gO) (n4 : ¬ H gO)
    (hd : PV w1 bd bv F' D' A' G') (s1 : Step F F' W w1) (hr : PR w2 br bw H' D' A' G') (s2 : Step H H' w1 w2) (hK : D'.K.length = n) (hW : D'.W.length ≤ j + 1) (hA : A'.length ≤ j + 1) (hG : G'.length ≤ j + 1) : PgCut w bd bv br bw n j gO opc (.int .i64 e) (.int .i64 e) w2 := by
  have lO := (Array.getElem?_eq_some_iff.1 hO).1
  have hz := s1.keeps.size
  refine ⟨D', A', G', F', H', e, rfl, rfl, hP.step hk.size hd s1 hr s2, hK, hW, hA, hG, s2.keeps.blk (s1.keeps.blk hO n3) n4, s1.notIn7 n3 lO, s2.notIn7 n4 (by omega), ?_⟩
  exact (hk.trans s1.keeps (fun i hi h => absurd (hP.2.2.2.1 i h) (by omega))).trans s2.keeps (fun i hi h => absurd (hP.2.2.2.2 i h) (by omega))

def pg0 : PG := ((⟨0, by decide⟩, ⟨0, by decide⟩, ⟨0, by decide⟩), ⟨0, by decide⟩, ⟨0, by decide⟩)
theorem nil7r (bv : Option Addr) (w : World) : Calls Tryd.prog 16 #[.pointer none, .pointer bv, .int .i64 0, .agg #[.int .i64 0, .int .i64 0, .int .i64 0, .int .i64 0, .int .i64 0]] w fun e w' => e = .returned (.tuple #[.slice none 0 0, .int .i64 1]) ∧ Keeps No w w' := pread_nilD bv 0 pg0 w
theorem nil7s (bd : Nat) (w : World) : Calls Tryd.prog 16 #[.pointer (some ⟨bd, 0, none⟩), .pointer none, .int .i64 0, .agg #[.int .i64 0, .int .i64 0, .int .i64 0, .int .i64 0, .int .i64 0]] w fun e w' => e = .returned (.tuple #[.slice none 0 0, .int .i64 1]) ∧ Keeps No w w' := pread_nilV bd 0 pg0 w
theorem nil7w (bv : Option Addr) (w : World) : Calls Tryd.prog 15 #[.pointer none, .pointer bv, .int .i64 0, .agg #[.int .i64 0, .int .i64 0, .int .i64 0, .int .i64 0, .int .i64 0], .slice none 0 0] w fun e w' => e = .returned (.int .i64 1) ∧ Keeps No w w' := pwrite_nilD bv 0 pg0 none 0 0 w
theorem nil7x (bd : Nat) (w : World) : Calls Tryd.prog 15 #[.pointer (some ⟨bd, 0, none⟩), .pointer none, .int .i64 0, .agg #[.int .i64 0, .int .i64 0, .int .i64 0, .int .i64 0, .int .i64 0], .slice none 0 0] w fun e w' => e = .returned (.int .i64 1) ∧ Keeps No w w' := pwrite_nilV bd 0 pg0 none 0 0 w

set_option maxHeartbeats 16000000 in
theorem pagePlays_any (bs : Int) (a1 : Option Addr) (n1 c1 : Nat) (L : List OPP) (w : World) (hbs : (Lit.int .i64 bs).wf = true)
    (hs1 : SlK w 10 a1 n1 c1 (L.map oppV)) (hL : ∀ o ∈ L, OppOk w o) :
    Calls Tryd.prog 8 #[.int .i64 bs, .slice a1 n1 c1] w fun e w' => e = .returned (.bool true) ∧ Keeps No w w' := by
  have hlen : L.length = n1 := by simpa using hs1.len
  have hwm := hs1.max
  have hwl := hs1.le
  unfold maxLen at hwm
  have Hlen := Lib.hid hlen
  have HL := Lib.hid hL
  obtain ⟨m0, hm0, hm0', hm12⟩ := umod bs 10 (by omega)
  obtain ⟨N, hN⟩ : ∃ N : Nat, N = 1 + m0 := ⟨_, rfl⟩
  have hNi : (1 : Int) + (m0 : Int) = (N : Int) := by omega
  have hN1 : 1 ≤ N := by omega
  have hN12 : N ≤ 10 := by omega
  clear hlen hL hbs
  go_enter Tryd.func8, Tryd.ntmps8
  go_wp2_with fail
  refine (first07_any _).mono ?_
  rintro e w1 ⟨rfl, hk1⟩
  have hz1 := hk1.size
  clear hN
  go_wp2_with fail
  refine (d_new N w1 (by omega) (by omega)).mono ?_
  rintro e w2 ⟨bd, Fd, rfl, hd2, hFd, hk2⟩
  clear hNi hm0 hm0'
  go_wp2_with fail
  refine (f_new w2).mono ?_
  rintro e w3 ⟨bv, Fv, rfl, hv3, hFv, hk3⟩
  obtain ⟨F, hV, hFw⟩ := pvnew N w1 bd bv Fd Fv _ [] [] w2 w3 hd2 hFd hv3 hFv hk2 hk3
  have hk03 := (hk1.transNo hk2).transNo hk3
  clear hd2 hv3 hFd hFv
  go_wp2_with fail
  refine (r_new N w3 (by omega) (by omega)).mono ?_
  rintro e w4 ⟨br, Fr, rfl, hr4, hFr, hk4⟩
  have hbV := heap_alloc_new w4 (.cells #[.slice none 0 0, .slice none 0 0] 70)
  have hkV : Keeps No w4 (w4.alloc (.cells #[.slice none 0 0, .slice none 0 0] 70)) := (Keeps.refl No w4).alloc _
  obtain ⟨H, hR, hHw⟩ := prnew N w3 br w4.heap.size Fr _ _ [] [] w4 _ hr4 hFr (RVF.new _ _ hbV) (fun i hi => by rw [hi]; exact Nat.le_refl _) hk4 hkV
  have hk34 := hk4.transNo hkV
  have hP5 : Twn w.heap.size bd bv br w4.heap.size F H ⟨List.replicate N (full []), [], none⟩ [] [] (w4.alloc (.cells #[.slice none 0 0, .slice none 0 0] 70)) := ⟨hV.kept hk34, hR, fun i hf hh => by have := hV.lt i hf; have := hHw i hh; omega, fun i h => Nat.le_trans hz1 (hFw i h), fun i h => Nat.le_trans hk03.size (hHw i h)⟩
  have hk05 := hk03.transNo hk34
  clear hV hR hFw hHw hr4 hFr hbV hkV hk34 hk4 hk3 hk2 hk03 hz1
  go_wp2_with fail
  generalize (w4.alloc (.cells #[.slice none 0 0, .slice none 0 0] 70)) = w5 at hP5 hk05 ⊢
  generalize w4.heap.size = bw at hP5 ⊢
  have hKl : (⟨List.replicate N (full []), [], none⟩ : DS).K.length = N := by simp
  have hWl : (⟨List.replicate N (full []), [], none⟩ : DS).W.length ≤ 0 := by simp
  generalize (⟨List.replicate N (full []), [], none⟩ : DS) = D3 at hP5 hKl hWl
  have hfr : ∀ (G : Nat → Prop), (∀ i, G i → w.heap.size ≤ i) → ∀ (a : Option Addr) (n c : Nat) (xs : List Value), Sl w a n c xs → 0 < n → ¬ G (a.getD default).block := fun G hG a n c xs hs h0 h => by
    have := hs.lt h0
    have := hG _ h
    omega
  have Hfr := Lib.hid hfr
  clear hfr
  have HKl := Lib.hid hKl
  clear hKl
  go_loopg [46] n1 (fun q i wr => ∃ (j : Nat) (D : DS) (A : List AE) (G : List K3) (F H : Nat → Prop), j ≤ n1 ∧ q = n1 - j ∧ i = .int .i64 (j : Int) ∧ Twn w.heap.size bd bv br bw F H D A G wr ∧ Hid (D.K.length = N) ∧ D.W.length ≤ j ∧ A.length ≤ j ∧ G.length ≤ j ∧ Keeps No w wr)
  case atStart => exact ⟨0, D3, [], [], F, H, Nat.zero_le _, rfl, rfl, hP5, HKl, hWl, Nat.zero_le _, Nat.zero_le _, hk05⟩
  case round =>
    clear hP5 hWl HKl hk05
    obtain ⟨j, D, A, G, F, H, hj, hq, rfl, hP, HKl, hWl, hAl, hGl, hkr⟩ := hrel
    have Hq := Lib.hid hq
    clear hq
    by_cases hlt : j < n1
    case neg =>
      as_aux_lemma =>
          go_wp2_with fail
          refine (nil7r _ _).mono ?_
          rintro e wa ⟨rfl, hka⟩
          go_wp2_with fail
          refine (nil7s _ _).mono ?_
          rintro e wb ⟨rfl, hkb⟩
          go_wp2_with fail
          refine (nil7w _ _).mono ?_
          rintro e wc ⟨rfl, hkc⟩
          go_wp2_with fail
          refine (nil7x _ _).mono ?_
          rintro e we ⟨rfl, hke⟩
          go_wp2_with fail
          go_ret
          exact ⟨rfl, (((hkr.transNo hka).transNo hkb).transNo hkc).transNo hke⟩
    have hlt' : j < L.length := by rw [Hlen.out]; exact hlt
    have hsr := hs1.kept hkr
    have hix := hsr.ix (P := Tryd.prog) Tryd.underlying62 opp_size hlt .i64
    obtain ⟨hld, _⟩ := hsr.load (P := Tryd.prog) (ty := 72) Tryd.underlying72 rfl opp_size hlt
    obtain ⟨o, ho⟩ : ∃ o, o = L[j] := ⟨_, rfl⟩
    have hxc : (L.map oppV).getD j [] = oppV o := by rw [ho]; simp [hlt']
    obtain ⟨⟨hB, hBn⟩, hKp, hKn⟩ := HL.out o (by rw [ho]; exact List.getElem_mem hlt')
    obtain ⟨⟨kd, hkd⟩, ⟨bl, hbl⟩, ⟨fr, hfr⟩, p, ⟨aB, nB, cB, pB⟩, ⟨aK, nK, cK, pK⟩⟩ := o
    rw [hxc, show (oppV (⟨kd, hkd⟩, ⟨bl, hbl⟩, ⟨fr, hfr⟩, p, ⟨aB, nB, cB, pB⟩, ⟨aK, nK, cK, pK⟩)).toArray = #[.int .i64 kd, .int .i64 bl, .int .i64 fr, .int .i64 p.1.1.1, .int .i64 p.1.2.1.1, .int .i64 p.1.2.2.1, .int .i64 p.2.1.1, .int .i64 p.2.2.1, .slice aB nB cB, .slice aK nK cK] from rfl] at hld
    simp only at hB hBn hKp hKn
    have hlB : pB.length = nB := by simpa using hB.len
    have HlB := Lib.hid hlB
    have hblw := wf_i64_iff hbl
    have Hbl := Lib.hid hbl
    have Hfrw := Lib.hid hfr
    clear hxc ho hlB hsr hkd hbl hfr
    go_upto_region 10 with (refine wpList_loadV (op := ⟨some 50, _, _, _, _, _⟩) rfl 72 (.tmp 49) rfl _ rfl _ hld ?_)
    have hbN := heap_alloc_new wr (.cells #[.int .i64 kd, .int .i64 bl, .int .i64 fr, .int .i64 p.1.1.1, .int .i64 p.1.2.1.1, .int .i64 p.1.2.2.1, .int .i64 p.2.1.1, .int .i64 p.2.2.1, .slice aB nB cB, .slice aK nK cK] 72)
    have hkN : Keeps No wr (wr.alloc (.cells #[.int .i64 kd, .int .i64 bl, .int .i64 fr, .int .i64 p.1.1.1, .int .i64 p.1.2.1.1, .int .i64 p.1.2.2.1, .int .i64 p.2.1.1, .int .i64 p.2.2.1, .slice aB nB cB, .slice aK nK cK] 72)) := (Keeps.refl No wr).alloc _
    have hzN : (wr.alloc (.cells #[.int .i64 kd, .int .i64 bl, .int .i64 fr, .int .i64 p.1.1.1, .int .i64 p.1.2.1.1, .int .i64 p.1.2.2.1, .int .i64 p.2.1.1, .int .i64 p.2.2.1, .slice aB nB cB, .slice aK nK cK] 72)).heap.size = wr.heap.size + 1 := by simp
    generalize (wr.alloc (.cells #[.int .i64 kd, .int .i64 bl, .int .i64 fr, .int .i64 p.1.1.1, .int .i64 p.1.2.1.1, .int .i64 p.1.2.2.1, .int .i64 p.2.1.1, .int .i64 p.2.2.1, .slice aB nB cB, .slice aK nK cK] 72)) = w7 at hbN hkN hzN ⊢
    obtain ⟨x0, x1, x2, x3, x4, x5, x6, x7, x8, x9⟩ := cells10 hbN
    have hk7 := hkr.transNo hkN
    have hP7 := hP.kept hkN
    have hnd0 : ∀ i, F i → i < wr.heap.size := hP.1.lt
    have hnr0 : ∀ i, H i → i < wr.heap.size := hP.2.1.lt
    have m3 : ¬ F wr.heap.size := fun h => by have := hnd0 _ h; omega
    have m4 : ¬ H wr.heap.size := fun h => by have := hnr0 _ h; omega
    have hzN' : wr.heap.size < w7.heap.size := by omega
    clear hld hix hzN hnd0 hnr0 hP
    by_cases h60 : 60 ≤ j
    · as_aux_lemma =>
          have hd60 : decide ((60 : Int) ≤ (j : Int)) = true := by simp; omega
          go_wp2_with fail
          refine (nil7r _ _).mono ?_
          rintro e wa ⟨rfl, hka⟩
          go_wp2_with fail
          refine (nil7s _ _).mono ?_
          rintro e wb ⟨rfl, hkb⟩
          go_wp2_with fail
          refine (nil7w _ _).mono ?_
          rintro e wc ⟨rfl, hkc⟩
          go_wp2_with fail
          refine (nil7x _ _).mono ?_
          rintro e we ⟨rfl, hke⟩
          go_wp2_with fail
          go_ret
          exact ⟨rfl, (((hk7.transNo hka).transNo hkb).transNo hkc).transNo hke⟩
    have hd60 : decide ((60 : Int) ≤ (j : Int)) = false := by simp; omega
    by_cases hB300 : 300 < nB
    · as_aux_lemma =>
          have hdB : decide ((300 : Int) < (nB : Int)) = true := by simp; omega
          go_wp2_with fail
          refine (nil7r _ _).mono ?_
          rintro e wa ⟨rfl, hka⟩
          go_wp2_with fail
          refine (nil7s _ _).mono ?_
          rintro e wb ⟨rfl, hkb⟩
          go_wp2_with fail
          refine (nil7w _ _).mono ?_
          rintro e wc ⟨rfl, hkc⟩
          go_wp2_with fail
          refine (nil7x _ _).mono ?_
          rintro e we ⟨rfl, hke⟩
          go_wp2_with fail
          go_ret
          exact ⟨rfl, (((hk7.transNo hka).transNo hkb).transNo hkc).transNo hke⟩
    have hdB : decide ((300 : Int) < (nB : Int)) = false := by simp; omega
    by_cases hK100 : 100 < nK
    · as_aux_lemma =>
          have hdK : decide ((100 : Int) < (nK : Int)) = true := by simp; omega
          go_wp2_with fail
          refine (nil7r _ _).mono ?_
          rintro e wa ⟨rfl, hka⟩
          go_wp2_with fail
          refine (nil7s _ _).mono ?_
          rintro e wb ⟨rfl, hkb⟩
          go_wp2_with fail
          refine (nil7w _ _).mono ?_
          rintro e wc ⟨rfl, hkc⟩
          go_wp2_with fail
          refine (nil7x _ _).mono ?_
          rintro e we ⟨rfl, hke⟩
          go_wp2_with fail
          go_ret
          exact ⟨rfl, (((hk7.transNo hka).transNo hkb).transNo hkc).transNo hke⟩
    have hdK : decide ((100 : Int) < (nK : Int)) = false := by simp; omega
    have hj60 : j < 60 := by omega
    have hBd := Hfr.out F hP7.2.2.2.1 _ _ _ _ hB
    have hBr := Hfr.out H hP7.2.2.2.2 _ _ _ _ hB
    have hKd := Hfr.out F hP7.2.2.2.1 _ _ _ _ hKp
    have hKr := Hfr.out H hP7.2.2.2.2 _ _ _ _ hKp
    go_upto_block 2 with fail
    generalize (IntKind.u64.wrap kd).tmod 8 = q
    go_cut [13, 14] (fun s12 s13 wx => PgCut w bd bv br bw N j wr.heap.size #[.int .i64 kd, .int .i64 bl, .int .i64 fr, .int .i64 p.1.1.1, .int .i64 p.1.2.1.1, .int .i64 p.1.2.2.1, .int .i64 p.2.1.1, .int .i64 p.2.2.1, .slice aB nB cB, .slice aK nK cK] s12 s13 wx)
    case first =>
      have same : PgCut w bd bv br bw N j wr.heap.size #[.int .i64 kd, .int .i64 bl, .int .i64 fr, .int .i64 p.1.1.1, .int .i64 p.1.2.1.1, .int .i64 p.1.2.2.1, .int .i64 p.2.1.1, .int .i64 p.2.2.1, .slice aB nB cB, .slice aK nK cK] (.int .i64 0) (.int .i64 0) w7 :=
        ⟨D, A, G, F, H, 0, rfl, rfl, hP7, HKl.out, by omega, by omega, by omega, hbN, m3, m4, hk7⟩
      by_cases q0 : q = 0
      · as_aux_lemma =>
            have e0 : (q == 0) = true := by rw [beq_iff_eq]; exact q0
            clear q0 same
            have hwd := pwrite_any bd bv F D A G bl p aB nB cB pB w7.drew (hP7.1.kept (Keeps.refl No w7).drew) Hbl.out (by omega) (by omega) (hB.kept hk7.drew) hBn
            obtain ⟨l1, l2, l3⟩ := pwriteA_len D A G bl p pB
            unfold PWPost pgCells at hwd
            have hst := fun wx (hx : Keeps No w wx) => strB (hB.kept hx)
            go_wp2_with fail
            refine wp_region_held_drew (S := fun wx => wx.cell? ⟨wr.heap.size, 1, none⟩ = some (.int .i64 bl) ∧ wx.cell? ⟨wr.heap.size, 3, none⟩ = some (.int .i64 p.1.1.1) ∧ wx.cell? ⟨wr.heap.size, 4, none⟩ = some (.int .i64 p.1.2.1.1) ∧ wx.cell? ⟨wr.heap.size, 5, none⟩ = some (.int .i64 p.1.2.2.1) ∧ wx.cell? ⟨wr.heap.size, 6, none⟩ = some (.int .i64 p.2.1.1) ∧ wx.cell? ⟨wr.heap.size, 7, none⟩ = some (.int .i64 p.2.2.1) ∧ wx.cell? ⟨wr.heap.size, 8, none⟩ = some (.slice aB nB cB) ∧ (convert 35 9 (.slice aB nB cB)).run Tryd.prog wx = .ok (.string ⟨pB.toArray⟩) wx) (by kernel_rfl) (⟨x1, x3, x4, x5, x6, x7, x8, hst _ hk7.drew⟩) (fun hS => ?_)
            refine tk (i := 0) (oi := ⟨some 71, _, _, _, _, _⟩) (v := ?_) rfl (by kernel_rfl) (fun _ _ _ h => h) (by assumption) (by rfl) (fun w hSw => ?_) ?_; rotate_left; (focus (first | (go_simp; done) | (go_simp; with_reducible rfl))); simp only [Act.put, List.setIfInBounds_toArray, List.set_cons_zero, List.set_cons_succ]
            refine tk (i := 1) (oi := ⟨some 72, _, _, _, _, _⟩) (v := ?_) rfl (by kernel_rfl) (fun _ _ _ h => h) (by assumption) (by rfl) (fun w hSw => ?_) ?_; rotate_left; (focus (first | (go_simp; done) | (go_simp; with_reducible rfl))); simp only [Act.put, List.setIfInBounds_toArray, List.set_cons_zero, List.set_cons_succ]
            refine tk (i := 2) (oi := ⟨some 73, _, _, _, _, _⟩) (v := ?_) rfl (by kernel_rfl) (fun _ _ _ h => h) (by assumption) (by rfl) (fun w hSw => ?_) ?_; rotate_left; (focus (first | (go_simp; done) | (go_simp; with_reducible rfl))); simp only [Act.put, List.setIfInBounds_toArray, List.set_cons_zero, List.set_cons_succ]
            refine tk (i := 3) (oi := ⟨some 74, _, _, _, _, _⟩) (v := ?_) rfl (by kernel_rfl) (fun _ _ _ h => h) (by assumption) (by rfl) (fun w hSw => ?_) ?_; rotate_left; (focus (first | (go_simp; done) | (go_simp; with_reducible rfl))); simp only [Act.put, List.setIfInBounds_toArray, List.set_cons_zero, List.set_cons_succ]
            refine tk (i := 4) (oi := ⟨some 75, _, _, _, _, _⟩) (v := ?_) rfl (by kernel_rfl) (fun _ _ _ h => h) (by assumption) (by rfl) (fun w hSw => ?_) ?_; rotate_left; (focus (first | (go_simp; done) | (go_simp; with_reducible rfl))); simp only [Act.put, List.setIfInBounds_toArray, List.set_cons_zero, List.set_cons_succ]
            refine tk (i := 5) (oi := ⟨some 76, _, _, _, _, _⟩) (v := ?_) rfl (by kernel_rfl) (fun _ _ _ h => h) (by assumption) (by rfl) (fun w hSw => ?_) ?_; rotate_left; (focus (first | (go_simp; done) | (go_simp; with_reducible rfl))); simp only [Act.put, List.setIfInBounds_toArray, List.set_cons_zero, List.set_cons_succ]
            refine tk (i := 6) (oi := ⟨some 77, _, _, _, _, _⟩) (v := ?_) rfl (by kernel_rfl) (fun _ _ _ h => h) (by assumption) (by rfl) (fun w hSw => ?_) ?_; rotate_left; (focus (first | (go_simp; done) | (go_simp; with_reducible rfl))); simp only [Act.put, List.setIfInBounds_toArray, List.set_cons_zero, List.set_cons_succ]
            refine tk (i := 7) (oi := ⟨some 78, _, _, _, _, _⟩) (v := ?_) rfl (by kernel_rfl) (fun _ _ _ h => h) (by assumption) (by rfl) (fun w hSw => ?_) ?_; rotate_left; (focus (first | (go_simp; done) | (go_simp; with_reducible rfl))); simp only [Act.put, List.setIfInBounds_toArray, List.set_cons_zero, List.set_cons_succ]
            refine tk (i := 9) (oi := ⟨some 80, _, _, _, _, _⟩) (v := ?_) rfl (by kernel_rfl) (fun _ _ _ h => h) (by assumption) (by rfl) (fun w hSw => ?_) ?_; rotate_left; (focus (first | (go_simp; done) | (go_simp; with_reducible rfl))); simp only [Act.put, List.setIfInBounds_toArray, List.set_cons_zero, List.set_cons_succ]
            refine tk (i := 10) (oi := ⟨some 81, _, _, _, _, _⟩) (v := ?_) rfl (by kernel_rfl) (fun _ _ _ h => h) (by assumption) (by rfl) (fun w hSw => ?_) ?_; rotate_left; (focus (first | (go_simp; done) | (go_simp; with_reducible rfl))); simp only [Act.put, List.setIfInBounds_toArray, List.set_cons_zero, List.set_cons_succ]
            refine tk (i := 11) (oi := ⟨some 82, _, _, _, _, _⟩) (v := ?_) rfl (by kernel_rfl) (fun _ _ _ h => h) (by assumption) (by rfl) (fun w hSw => ?_) ?_; rotate_left; (focus (first | (go_simp; done) | (go_simp; with_reducible rfl))); simp only [Act.put, List.setIfInBounds_toArray, List.set_cons_zero, List.set_cons_succ]
            refine tk (i := 12) (oi := ⟨some 83, _, _, _, _, _⟩) (v := ?_) rfl (by kernel_rfl) (fun _ _ _ h => h) (by assumption) (by rfl) (fun w hSw => ?_) ?_; rotate_left; (focus (first | (go_simp; done) | (go_simp; with_reducible rfl))); simp only [Act.put, List.setIfInBounds_toArray, List.set_cons_zero, List.set_cons_succ]
            refine tk (i := 13) (oi := ⟨some 84, _, _, _, _, _⟩) (v := ?_) rfl (by kernel_rfl) (fun _ _ _ h => h) (by assumption) (by rfl) (fun w hSw => ?_) ?_; rotate_left; (focus (first | (go_simp; done) | (go_simp; with_reducible rfl))); simp only [Act.put, List.setIfInBounds_toArray, List.set_cons_zero, List.set_cons_succ]
            refine tk (i := 14) (oi := ⟨some 85, _, _, _, _, _⟩) (v := ?_) rfl (by kernel_rfl) (fun _ _ _ h => h) (by assumption) (by rfl) (fun w hSw => ?_) ?_; rotate_left; (focus (first | (go_simp; done) | (go_simp; with_reducible rfl))); simp only [Act.put, List.setIfInBounds_toArray, List.set_cons_zero, List.set_cons_succ]
            refine tk (i := 15) (oi := ⟨some 86, _, _, _, _, _⟩) (v := ?_) rfl (by kernel_rfl) (fun _ _ _ h => h) (by assumption) (by rfl) (fun w hSw => ?_) ?_; rotate_left; (focus (first | (go_simp; done) | (go_simp; with_reducible rfl))); simp only [Act.put, List.setIfInBounds_toArray, List.set_cons_zero, List.set_cons_succ]
            refine tk (i := 16) (oi := ⟨some 87, _, _, _, _, _⟩) (v := ?_) rfl (by kernel_rfl) (fun _ _ _ h => h) (by assumption) (by rfl) (fun w hSw => ?_) ?_; rotate_left; (focus (first | (go_simp; done) | (go_simp; with_reducible rfl))); simp only [Act.put, List.setIfInBounds_toArray, List.set_cons_zero, List.set_cons_succ]
            refine tk (i := 17) (oi := ⟨some 88, _, _, _, _, _⟩) (v := ?_) rfl (by kernel_rfl) (fun _ _ _ h => h) (by assumption) (by rfl) (fun w hSw => ?_) ?_; rotate_left; (focus (first | (go_simp; done) | (go_simp; with_reducible rfl))); simp only [Act.put, List.setIfInBounds_toArray, List.set_cons_zero, List.set_cons_succ]
            refine alone (i := 8) (oi := ⟨some 79, _, _, _, _, _⟩) rfl (by kernel_rfl) (by rfl) (fun K hK => ?_); go_simp
            refine hwd.mono ?_
            rintro e w8 ⟨rfl, F8, hd8, hs8⟩
            have hk8 : Keeps No w w8 := hk7.drew.trans hs8.keeps (fun i hi h => absurd (hP7.2.2.2.1 i h) (by omega))
            have hb8 := hs8.keeps.blk (show w7.drew.heap[wr.heap.size]? = _ from hbN) m3
            obtain ⟨_, z1, _, z3, z4, z5, z6, z7, z8, _⟩ := cells10 hb8
            have hrw := rpwrite_any br bw H D A G bl p pB w8 (hP7.ref (Keeps.ofDrew hs8.keeps)) Hbl.out (by omega) (by omega) (by omega) (by have := HlB.out; omega)
            unfold PRPost pgCells at hrw
            go_simp
            refine hK.out (fun wx => wx.cell? ⟨wr.heap.size, 1, none⟩ = some (.int .i64 bl) ∧ wx.cell? ⟨wr.heap.size, 3, none⟩ = some (.int .i64 p.1.1.1) ∧ wx.cell? ⟨wr.heap.size, 4, none⟩ = some (.int .i64 p.1.2.1.1) ∧ wx.cell? ⟨wr.heap.size, 5, none⟩ = some (.int .i64 p.1.2.2.1) ∧ wx.cell? ⟨wr.heap.size, 6, none⟩ = some (.int .i64 p.2.1.1) ∧ wx.cell? ⟨wr.heap.size, 7, none⟩ = some (.int .i64 p.2.2.1) ∧ wx.cell? ⟨wr.heap.size, 8, none⟩ = some (.slice aB nB cB) ∧ (convert 35 9 (.slice aB nB cB)).run Tryd.prog wx = .ok (.string ⟨pB.toArray⟩) wx) _ _ (fun _ h => h) (⟨z1, z3, z4, z5, z6, z7, z8, hst _ hk8⟩) ?_
            clear hK K hS
            intro hS
            refine alone (i := 18) (oi := ⟨some 89, _, _, _, _, _⟩) rfl (by kernel_rfl) (by rfl) (fun K hK => ?_); go_simp
            refine hrw.mono ?_
            rintro e w9 ⟨rfl, H9, hr9, hs9⟩
            have hk9 : Keeps No w w9 := hk8.trans hs9.keeps (fun i hi h => absurd (hP7.2.2.2.2 i h) (by omega))
            have hb9 := hs9.keeps.blk hb8 m4
            obtain ⟨_, u1, _, u3, u4, u5, u6, u7, u8, _⟩ := cells10 hb9
            go_simp
            refine hK.out (fun wx => wx.cell? ⟨wr.heap.size, 1, none⟩ = some (.int .i64 bl) ∧ wx.cell? ⟨wr.heap.size, 3, none⟩ = some (.int .i64 p.1.1.1) ∧ wx.cell? ⟨wr.heap.size, 4, none⟩ = some (.int .i64 p.1.2.1.1) ∧ wx.cell? ⟨wr.heap.size, 5, none⟩ = some (.int .i64 p.1.2.2.1) ∧ wx.cell? ⟨wr.heap.size, 6, none⟩ = some (.int .i64 p.2.1.1) ∧ wx.cell? ⟨wr.heap.size, 7, none⟩ = some (.int .i64 p.2.2.1) ∧ wx.cell? ⟨wr.heap.size, 8, none⟩ = some (.slice aB nB cB) ∧ (convert 35 9 (.slice aB nB cB)).run Tryd.prog wx = .ok (.string ⟨pB.toArray⟩) wx) _ _ (fun _ h => h) (⟨u1, u3, u4, u5, u6, u7, u8, hst _ hk9⟩) ?_
            clear hK K hS
            intro hS
            refine tk (i := 19) (oi := ⟨some 13, _, _, _, _, _⟩) (v := ?_) rfl (by kernel_rfl) (fun _ _ _ h => h) (by assumption) (by rfl) (fun w hSw => ?_) ?_; rotate_left; (focus (first | (go_simp; done) | (go_simp; with_reducible rfl))); simp only [Act.put, List.setIfInBounds_toArray, List.set_cons_zero, List.set_cons_succ]
            refine tk (i := 20) (oi := ⟨some 14, _, _, _, _, _⟩) (v := ?_) rfl (by kernel_rfl) (fun _ _ _ h => h) (by assumption) (by rfl) (fun w hSw => ?_) ?_; rotate_left; (focus (first | (go_simp; done) | (go_simp; with_reducible rfl))); simp only [Act.put, List.setIfInBounds_toArray, List.set_cons_zero, List.set_cons_succ]
            refine wpAnyH_done (by kernel_rfl) ?_ _
            go_wp2_with fail
            go_meet
            exact PgCut.mk' (hP7.kept (Keeps.refl No w7).drew) hk7.drew hbN m3 m4 hd8 hs8 hr9 hs9 (by rw [l1]; exact HKl.out) (by omega) (by omega) (by omega)
      have e0 : (q == 0) = false := by rw [beq_eq_false_iff_ne]; exact q0
      clear q0
      by_cases q2 : q = 2
      · as_aux_lemma =>
            have e2 : (q == 2) = true := by rw [beq_iff_eq]; exact q2
            clear q2 same
            have hwd := pv_over bd bv F D A G w7.drew bl aB nB cB pB (hP7.1.kept (Keeps.refl No w7).drew) (hB.kept hk7.drew) hBn hBd
            obtain ⟨l1, l2⟩ := over_len7 D bl pB
            have hst := fun wx (hx : Keeps No w wx) => strB (hB.kept hx)
            go_wp2_with fail
            refine wp_region_held_drew (S := fun wx => wx.cell? ⟨wr.heap.size, 1, none⟩ = some (.int .i64 bl) ∧ wx.cell? ⟨wr.heap.size, 8, none⟩ = some (.slice aB nB cB) ∧ (convert 35 9 (.slice aB nB cB)).run Tryd.prog wx = .ok (.string ⟨pB.toArray⟩) wx) (by kernel_rfl) (⟨x1, x8, hst _ hk7.drew⟩) (fun hS => ?_)
            refine tk (i := 0) (oi := ⟨some 92, _, _, _, _, _⟩) (v := ?_) rfl (by kernel_rfl) (fun _ _ _ h => h) (by assumption) (by rfl) (fun w hSw => ?_) ?_; rotate_left; (focus (first | (go_simp; done) | (go_simp; with_reducible rfl))); simp only [Act.put, List.setIfInBounds_toArray, List.set_cons_zero, List.set_cons_succ]
            refine tk (i := 1) (oi := ⟨some 93, _, _, _, _, _⟩) (v := ?_) rfl (by kernel_rfl) (fun _ _ _ h => h) (by assumption) (by rfl) (fun w hSw => ?_) ?_; rotate_left; (focus (first | (go_simp; done) | (go_simp; with_reducible rfl))); simp only [Act.put, List.setIfInBounds_toArray, List.set_cons_zero, List.set_cons_succ]
            refine tk (i := 2) (oi := ⟨some 94, _, _, _, _, _⟩) (v := ?_) rfl (by kernel_rfl) (fun _ _ _ h => h) (by assumption) (by rfl) (fun w hSw => ?_) ?_; rotate_left; (focus (first | (go_simp; done) | (go_simp; with_reducible rfl))); simp only [Act.put, List.setIfInBounds_toArray, List.set_cons_zero, List.set_cons_succ]
            refine tk (i := 3) (oi := ⟨some 95, _, _, _, _, _⟩) (v := ?_) rfl (by kernel_rfl) (fun _ _ _ h => h) (by assumption) (by rfl) (fun w hSw => ?_) ?_; rotate_left; (focus (first | (go_simp; done) | (go_simp; with_reducible rfl))); simp only [Act.put, List.setIfInBounds_toArray, List.set_cons_zero, List.set_cons_succ]
            refine tk (i := 4) (oi := ⟨some 96, _, _, _, _, _⟩) (v := ?_) rfl (by kernel_rfl) (fun _ _ _ h => h) (by assumption) (by rfl) (fun w hSw => ?_) ?_; rotate_left; (focus (first | (go_simp; done) | (go_simp; with_reducible rfl))); simp only [Act.put, List.setIfInBounds_toArray, List.set_cons_zero, List.set_cons_succ]
            refine tk (i := 6) (oi := ⟨some 98, _, _, _, _, _⟩) (v := ?_) rfl (by kernel_rfl) (fun _ _ _ h => h) (by assumption) (by rfl) (fun w hSw => ?_) ?_; rotate_left; (focus (first | (go_simp; done) | (go_simp; with_reducible rfl))); simp only [Act.put, List.setIfInBounds_toArray, List.set_cons_zero, List.set_cons_succ]
            refine tk (i := 7) (oi := ⟨some 99, _, _, _, _, _⟩) (v := ?_) rfl (by kernel_rfl) (fun _ _ _ h => h) (by assumption) (by rfl) (fun w hSw => ?_) ?_; rotate_left; (focus (first | (go_simp; done) | (go_simp; with_reducible rfl))); simp only [Act.put, List.setIfInBounds_toArray, List.set_cons_zero, List.set_cons_succ]
            refine tk (i := 8) (oi := ⟨some 100, _, _, _, _, _⟩) (v := ?_) rfl (by kernel_rfl) (fun _ _ _ h => h) (by assumption) (by rfl) (fun w hSw => ?_) ?_; rotate_left; (focus (first | (go_simp; done) | (go_simp; with_reducible rfl))); simp only [Act.put, List.setIfInBounds_toArray, List.set_cons_zero, List.set_cons_succ]
            refine tk (i := 9) (oi := ⟨some 101, _, _, _, _, _⟩) (v := ?_) rfl (by kernel_rfl) (fun _ _ _ h => h) (by assumption) (by rfl) (fun w hSw => ?_) ?_; rotate_left; (focus (first | (go_simp; done) | (go_simp; with_reducible rfl))); simp only [Act.put, List.setIfInBounds_toArray, List.set_cons_zero, List.set_cons_succ]
            refine tk (i := 10) (oi := ⟨some 102, _, _, _, _, _⟩) (v := ?_) rfl (by kernel_rfl) (fun _ _ _ h => h) (by assumption) (by rfl) (fun w hSw => ?_) ?_; rotate_left; (focus (first | (go_simp; done) | (go_simp; with_reducible rfl))); simp only [Act.put, List.setIfInBounds_toArray, List.set_cons_zero, List.set_cons_succ]
            refine tk (i := 11) (oi := ⟨some 103, _, _, _, _, _⟩) (v := ?_) rfl (by kernel_rfl) (fun _ _ _ h => h) (by assumption) (by rfl) (fun w hSw => ?_) ?_; rotate_left; (focus (first | (go_simp; done) | (go_simp; with_reducible rfl))); simp only [Act.put, List.setIfInBounds_toArray, List.set_cons_zero, List.set_cons_succ]
            refine alone (i := 5) (oi := ⟨some 97, _, _, _, _, _⟩) rfl (by kernel_rfl) (by rfl) (fun K hK => ?_); go_simp
            refine hwd.mono ?_
            rintro e w8 ⟨rfl, F8, hd8, hs8⟩
            have hk8 : Keeps No w w8 := hk7.drew.trans hs8.keeps (fun i hi h => absurd (hP7.2.2.2.1 i h) (by omega))
            have hb8 := hs8.keeps.blk (show w7.drew.heap[wr.heap.size]? = _ from hbN) m3
            obtain ⟨_, z1, _, z3, z4, z5, z6, z7, z8, _⟩ := cells10 hb8
            have hrw := pr_over br bw H D A G w8 bl pB (hP7.ref (Keeps.ofDrew hs8.keeps)) (by have := HlB.out; omega) (by omega)
            go_simp
            refine hK.out (fun wx => wx.cell? ⟨wr.heap.size, 1, none⟩ = some (.int .i64 bl) ∧ wx.cell? ⟨wr.heap.size, 8, none⟩ = some (.slice aB nB cB) ∧ (convert 35 9 (.slice aB nB cB)).run Tryd.prog wx = .ok (.string ⟨pB.toArray⟩) wx) _ _ (fun _ h => h) (⟨z1, z8, hst _ hk8⟩) ?_
            clear hK K hS
            intro hS
            refine alone (i := 12) (oi := ⟨some 104, _, _, _, _, _⟩) rfl (by kernel_rfl) (by rfl) (fun K hK => ?_); go_simp
            refine hrw.mono ?_
            rintro e w9 ⟨rfl, H9, hr9, hs9⟩
            have hk9 : Keeps No w w9 := hk8.trans hs9.keeps (fun i hi h => absurd (hP7.2.2.2.2 i h) (by omega))
            have hb9 := hs9.keeps.blk hb8 m4
            obtain ⟨_, u1, _, u3, u4, u5, u6, u7, u8, _⟩ := cells10 hb9
            go_simp
            refine hK.out (fun wx => wx.cell? ⟨wr.heap.size, 1, none⟩ = some (.int .i64 bl) ∧ wx.cell? ⟨wr.heap.size, 8, none⟩ = some (.slice aB nB cB) ∧ (convert 35 9 (.slice aB nB cB)).run Tryd.prog wx = .ok (.string ⟨pB.toArray⟩) wx) _ _ (fun _ h => h) (⟨u1, u8, hst _ hk9⟩) ?_
            clear hK K hS
            intro hS
            refine tk (i := 13) (oi := ⟨some 13, _, _, _, _, _⟩) (v := ?_) rfl (by kernel_rfl) (fun _ _ _ h => h) (by assumption) (by rfl) (fun w hSw => ?_) ?_; rotate_left; (focus (first | (go_simp; done) | (go_simp; with_reducible rfl))); simp only [Act.put, List.setIfInBounds_toArray, List.set_cons_zero, List.set_cons_succ]
            refine tk (i := 14) (oi := ⟨some 14, _, _, _, _, _⟩) (v := ?_) rfl (by kernel_rfl) (fun _ _ _ h => h) (by assumption) (by rfl) (fun w hSw => ?_) ?_; rotate_left; (focus (first | (go_simp; done) | (go_simp; with_reducible rfl))); simp only [Act.put, List.setIfInBounds_toArray, List.set_cons_zero, List.set_cons_succ]
            refine wpAnyH_done (by kernel_rfl) ?_ _
            go_wp2_with fail
            go_meet
            exact PgCut.mk' (hP7.kept (Keeps.refl No w7).drew) hk7.drew hbN m3 m4 hd8 hs8 hr9 hs9 (by rw [l1]; exact HKl.out) (by omega) (by omega) (by omega)
      have e2 : (q == 2) = false := by rw [beq_eq_false_iff_ne]; exact q2
      clear q2
      by_cases q3 : q = 3
      · as_aux_lemma =>
            have e3 : (q == 3) = true := by rw [beq_iff_eq]; exact q3
            clear q3 same
            have hR16 := read_len7 D F A G bd bv w7 hP7.1 fr
            generalize hR : D.read fr = R at hR16
            have hrd := pv_read bd bv F D A G w7 fr hP7.1
            rw [hR] at hrd
            go_wp2_with fail
            refine hrd.mono ?_
            rintro e w8 ⟨v8, rfl, hown8, hk8⟩
            clear hrd
            have hrr := pr_read br bw H D A G w8 fr (hP7.2.1.kept hk8)
            rw [hR] at hrr
            have hb8 := hk8.blk hbN (not_No _)
            obtain ⟨_, z1, z2, z3, z4, z5, z6, z7, z8, _⟩ := cells10 hb8
            obtain ⟨a8, c8, rfl, hs8, hf8⟩ := Sl.ofOwn hown8
            clear hR
            go_wp2_with fail
            refine hrr.mono ?_
            rintro e w9 ⟨rfl, rfl⟩
            clear hrr
            have hk08 := hk7.transNo hk8
            have hP8 := hP7.kept hk8
            have hFlt := hP7.1.lt
            have hHlt := hP7.2.1.lt
            have hwd := pv_over bd bv F D A G w8.drew bl a8 R.1.length c8 R.1 (hP8.1.kept (Keeps.refl No w8).drew) (hs8.kept (Keeps.refl No w8).drew) hR16 (fun h0 hf => by
              obtain ⟨g, e1, e2, e3⟩ := hf8 _ (hs8.isSome h0)
              have := hFlt _ hf
              rw [e1] at this
              exact absurd this (by simp; omega))
            obtain ⟨l1, l2⟩ := over_len7 D bl R.1
            go_wp2_with fail
            refine wp_region_held_drew (S := fun wx => wx.cell? ⟨wr.heap.size, 1, none⟩ = some (.int .i64 bl)) (by kernel_rfl) (z1) (fun hS => ?_)
            refine tk (i := 0) (oi := ⟨some 121, _, _, _, _, _⟩) (v := ?_) rfl (by kernel_rfl) (fun _ _ _ h => h) (by assumption) (by rfl) (fun w hSw => ?_) ?_; rotate_left; (focus (first | (go_simp; done) | (go_simp; with_reducible rfl))); simp only [Act.put, List.setIfInBounds_toArray, List.set_cons_zero, List.set_cons_succ]
            refine tk (i := 1) (oi := ⟨some 122, _, _, _, _, _⟩) (v := ?_) rfl (by kernel_rfl) (fun _ _ _ h => h) (by assumption) (by rfl) (fun w hSw => ?_) ?_; rotate_left; (focus (first | (go_simp; done) | (go_simp; with_reducible rfl))); simp only [Act.put, List.setIfInBounds_toArray, List.set_cons_zero, List.set_cons_succ]
            refine tk (i := 2) (oi := ⟨some 123, _, _, _, _, _⟩) (v := ?_) rfl (by kernel_rfl) (fun _ _ _ h => h) (by assumption) (by rfl) (fun w hSw => ?_) ?_; rotate_left; (focus (first | (go_simp; done) | (go_simp; with_reducible rfl))); simp only [Act.put, List.setIfInBounds_toArray, List.set_cons_zero, List.set_cons_succ]
            refine tk (i := 3) (oi := ⟨some 124, _, _, _, _, _⟩) (v := ?_) rfl (by kernel_rfl) (fun _ _ _ h => h) (by assumption) (by rfl) (fun w hSw => ?_) ?_; rotate_left; (focus (first | (go_simp; done) | (go_simp; with_reducible rfl))); simp only [Act.put, List.setIfInBounds_toArray, List.set_cons_zero, List.set_cons_succ]
            refine tk (i := 5) (oi := ⟨some 126, _, _, _, _, _⟩) (v := ?_) rfl (by kernel_rfl) (fun _ _ _ h => h) (by assumption) (by rfl) (fun w hSw => ?_) ?_; rotate_left; (focus (first | (go_simp; done) | (go_simp; with_reducible rfl))); simp only [Act.put, List.setIfInBounds_toArray, List.set_cons_zero, List.set_cons_succ]
            refine tk (i := 6) (oi := ⟨some 127, _, _, _, _, _⟩) (v := ?_) rfl (by kernel_rfl) (fun _ _ _ h => h) (by assumption) (by rfl) (fun w hSw => ?_) ?_; rotate_left; (focus (first | (go_simp; done) | (go_simp; with_reducible rfl))); simp only [Act.put, List.setIfInBounds_toArray, List.set_cons_zero, List.set_cons_succ]
            refine tk (i := 7) (oi := ⟨some 128, _, _, _, _, _⟩) (v := ?_) rfl (by kernel_rfl) (fun _ _ _ h => h) (by assumption) (by rfl) (fun w hSw => ?_) ?_; rotate_left; (focus (first | (go_simp; done) | (go_simp; with_reducible rfl))); simp only [Act.put, List.setIfInBounds_toArray, List.set_cons_zero, List.set_cons_succ]
            refine tk (i := 8) (oi := ⟨some 129, _, _, _, _, _⟩) (v := ?_) rfl (by kernel_rfl) (fun _ _ _ h => h) (by assumption) (by rfl) (fun w hSw => ?_) ?_; rotate_left; (focus (first | (go_simp; done) | (go_simp; with_reducible rfl))); simp only [Act.put, List.setIfInBounds_toArray, List.set_cons_zero, List.set_cons_succ]
            refine alone (i := 4) (oi := ⟨some 125, _, _, _, _, _⟩) rfl (by kernel_rfl) (by rfl) (fun K hK => ?_); go_simp
            refine hwd.mono ?_
            rintro e w9 ⟨rfl, F9, hd9, hs9⟩
            have hb9 := hs9.keeps.blk (show w8.drew.heap[wr.heap.size]? = _ from hb8) m3
            obtain ⟨_, u1, _⟩ := cells10 hb9
            have hrw := pr_over br bw H D A G w9 bl R.1 (hP8.ref (Keeps.ofDrew hs9.keeps)) hR16 (by omega)
            go_simp
            refine hK.out (fun wx => wx.cell? ⟨wr.heap.size, 1, none⟩ = some (.int .i64 bl)) _ _ (fun _ h => h) (u1) ?_
            clear hK K hS
            intro hS
            refine alone (i := 9) (oi := ⟨some 130, _, _, _, _, _⟩) rfl (by kernel_rfl) (by rfl) (fun K hK => ?_); go_simp
            refine hrw.mono ?_
            rintro e wa ⟨rfl, Ha, hra, hsa⟩
            have hba := hsa.keeps.blk hb9 m4
            obtain ⟨_, y1, _⟩ := cells10 hba
            go_simp
            refine hK.out (fun wx => wx.cell? ⟨wr.heap.size, 1, none⟩ = some (.int .i64 bl)) _ _ (fun _ h => h) (y1) ?_
            clear hK K hS
            intro hS
            refine tk (i := 10) (oi := ⟨some 13, _, _, _, _, _⟩) (v := ?_) rfl (by kernel_rfl) (fun _ _ _ h => h) (by assumption) (by rfl) (fun w hSw => ?_) ?_; rotate_left; (focus (first | (go_simp; done) | (go_simp; with_reducible rfl))); simp only [Act.put, List.setIfInBounds_toArray, List.set_cons_zero, List.set_cons_succ]
            refine tk (i := 11) (oi := ⟨some 14, _, _, _, _, _⟩) (v := ?_) rfl (by kernel_rfl) (fun _ _ _ h => h) (by assumption) (by rfl) (fun w hSw => ?_) ?_; rotate_left; (focus (first | (go_simp; done) | (go_simp; with_reducible rfl))); simp only [Act.put, List.setIfInBounds_toArray, List.set_cons_zero, List.set_cons_succ]
            refine wpAnyH_done (by kernel_rfl) ?_ _
            go_wp2_with fail
            go_meet
            exact PgCut.mk' (hP8.kept (Keeps.refl No w8).drew) hk08.drew hb8 m3 m4 hd9 hs9 hra hsa (by rw [l1]; exact HKl.out) (by omega) (by omega) (by omega)
      have e3 : (q == 3) = false := by rw [beq_eq_false_iff_ne]; exact q3
      clear q3
      by_cases q4 : q = 4
      · as_aux_lemma =>
            have e4 : (q == 4) = true := by rw [beq_iff_eq]; exact q4
            clear q4 same
            have hwd := pv_destroy bd bv F D A G w7 p.1 hP7.1 (by unfold maxLen; omega)
            unfold keyCells at hwd
            go_wp2_with fail
            refine hwd.mono ?_
            rintro e w8 ⟨rfl, F8, hd8, hs8⟩
            clear hwd
            have hk8 : Keeps No w w8 := hk7.trans hs8.keeps (fun i hi h => absurd (hP7.2.2.2.1 i h) (by omega))
            have hb8 := hs8.keeps.blk hbN m3
            obtain ⟨Hv, hv8, hsub, back⟩ := (hP7.ref hs8.keeps).vault
            obtain ⟨vl, vg, hRV, hRO, hRl⟩ := hv8
            have hRV' := hRV
            obtain ⟨r1, r2, r3, r4, r5, r6⟩ := hRV'
            obtain ⟨ag, cg, rfl, hsg, _⟩ := SlK.ofOwn (xs := G.map keyCells) (by decide) (keys_wide' G) r3
            have hnop : (Value.slice ag G.length cg).ownBlock ≠ some wr.heap.size := fun h => m4 (hsub _ (hRO _ (.inr (.inr h))))
            have HS : ∀ wx, Keeps (fun i => (Value.slice ag G.length cg).ownBlock = some i) w8 wx → (wx.cell? ⟨bw, 1, none⟩ = some (.slice ag G.length cg) ∧ wx.cell? ⟨wr.heap.size, 3, none⟩ = some (.int .i64 p.1.1.1) ∧ wx.cell? ⟨wr.heap.size, 4, none⟩ = some (.int .i64 p.1.2.1.1) ∧ wx.cell? ⟨wr.heap.size, 5, none⟩ = some (.int .i64 p.1.2.2.1)) :=
              fun wx hx => ⟨cell_of_row wx bw 1 _ _ (0, 0) (hx.blk r1 r5), (cells10 (hx.blk hb8 hnop)).2.2.2.1, (cells10 (hx.blk hb8 hnop)).2.2.2.2.1, (cells10 (hx.blk hb8 hnop)).2.2.2.2.2.1⟩
            have HS' := Lib.hid HS
            clear HS
            go_wp2_with fail
            refine region_L (fun wx => wx.cell? ⟨bw, 1, none⟩ = some (.slice ag G.length cg) ∧ wx.cell? ⟨wr.heap.size, 3, none⟩ = some (.int .i64 p.1.1.1) ∧ wx.cell? ⟨wr.heap.size, 4, none⟩ = some (.int .i64 p.1.2.1.1) ∧ wx.cell? ⟨wr.heap.size, 5, none⟩ = some (.int .i64 p.1.2.2.1)) 12 (by kernel_rfl) (HS'.out _ (Keeps.refl _ _).drew) (fun hS => ?_)
            refine tkL (i := 0) (oi := ⟨some 138, _, _, _, _, _⟩) (v := ?_) rfl (by kernel_rfl) (fun _ _ _ h => h) (by assumption) (by rfl) (fun w hSw => ?_) ?_; rotate_left; (focus (first | (go_simp; done) | (go_simp; with_reducible rfl))); simp only [Act.put, List.setIfInBounds_toArray, List.set_cons_zero, List.set_cons_succ]
            refine tkL (i := 1) (oi := ⟨some 139, _, _, _, _, _⟩) (v := ?_) rfl (by kernel_rfl) (fun _ _ _ h => h) (by assumption) (by rfl) (fun w hSw => ?_) ?_; rotate_left; (focus (first | (go_simp; done) | (go_simp; with_reducible rfl))); simp only [Act.put, List.setIfInBounds_toArray, List.set_cons_zero, List.set_cons_succ]
            refine tkL (i := 2) (oi := ⟨some 140, _, _, _, _, _⟩) (v := ?_) rfl (by kernel_rfl) (fun _ _ _ h => h) (by assumption) (by rfl) (fun w hSw => ?_) ?_; rotate_left; (focus (first | (go_simp; done) | (go_simp; with_reducible rfl))); simp only [Act.put, List.setIfInBounds_toArray, List.set_cons_zero, List.set_cons_succ]
            refine tkL (i := 3) (oi := ⟨some 141, _, _, _, _, _⟩) (v := ?_) rfl (by kernel_rfl) (fun _ _ _ h => h) (by assumption) (by rfl) (fun w hSw => ?_) ?_; rotate_left; (focus (first | (go_simp; done) | (go_simp; with_reducible rfl))); simp only [Act.put, List.setIfInBounds_toArray, List.set_cons_zero, List.set_cons_succ]
            refine tkL (i := 4) (oi := ⟨some 142, _, _, _, _, _⟩) (v := ?_) rfl (by kernel_rfl) (fun _ _ _ h => h) (by assumption) (by rfl) (fun w hSw => ?_) ?_; rotate_left; (focus (first | (go_simp; done) | (go_simp; with_reducible rfl))); simp only [Act.put, List.setIfInBounds_toArray, List.set_cons_zero, List.set_cons_succ]
            refine tkL (i := 5) (oi := ⟨some 143, _, _, _, _, _⟩) (v := ?_) rfl (by kernel_rfl) (fun _ _ _ h => h) (by assumption) (by rfl) (fun w hSw => ?_) ?_; rotate_left; (focus (first | (go_simp; done) | (go_simp; with_reducible rfl))); simp only [Act.put, List.setIfInBounds_toArray, List.set_cons_zero, List.set_cons_succ]
            refine tkL (i := 6) (oi := ⟨some 144, _, _, _, _, _⟩) (v := ?_) rfl (by kernel_rfl) (fun _ _ _ h => h) (by assumption) (by rfl) (fun w hSw => ?_) ?_; rotate_left; (focus (first | (go_simp; done) | (go_simp; with_reducible rfl))); simp only [Act.put, List.setIfInBounds_toArray, List.set_cons_zero, List.set_cons_succ]
            refine tkL (i := 7) (oi := ⟨some 145, _, _, _, _, _⟩) (v := ?_) rfl (by kernel_rfl) (fun _ _ _ h => h) (by assumption) (by rfl) (fun w hSw => ?_) ?_; rotate_left; (focus (first | (go_simp; done) | (go_simp; with_reducible rfl))); simp only [Act.put, List.setIfInBounds_toArray, List.set_cons_zero, List.set_cons_succ]
            refine aloneL (i := 8) (oi := ⟨some 146, _, _, _, _, _⟩) rfl (by kernel_rfl) (by rfl) (fun K hK => ?_); go_simp
            have hX1 : Keeps (fun i => (Value.slice ag G.length cg).ownBlock = some i) w8 (w8.alloc (.cells (keyCells p.1).toArray 23)).drew := ((Keeps.refl _ _).alloc _).drew
            refine hK.out (fun wx => wx.cell? ⟨bw, 1, none⟩ = some (.slice ag G.length cg) ∧ wx.cell? ⟨wr.heap.size, 3, none⟩ = some (.int .i64 p.1.1.1) ∧ wx.cell? ⟨wr.heap.size, 4, none⟩ = some (.int .i64 p.1.2.1.1) ∧ wx.cell? ⟨wr.heap.size, 5, none⟩ = some (.int .i64 p.1.2.2.1)) _ _ (fun _ h => h) (fun _ => HS'.out _ hX1) ?_
            clear hK K hS
            intro hS
            replace hS := hS rfl
            refine aloneL (i := 9) (oi := ⟨some 147, _, _, _, _, _⟩) rfl (by kernel_rfl) (by rfl) (fun K hK => ?_)
            refine wp_app_ownK (.tmp 142) (.tmp 146) 68 rfl 0 23 _ 3 24 Tryd.underlying68 key_info7 rfl (by decide) (by decide) _ G.length _ rfl (((Keeps.refl No w8).alloc (.cells (keyCells p.1).toArray 23)).drew.own r3 (fun _ _ => not_No _)) _ 1 1 [keyCells p.1] rfl ((SlK.one w8 (keyCells p.1) 23 rfl).kept ((Keeps.refl No _).drew)) ?h1q (by omega) (Nat.zero_le _) ?_
            case h1q => exact keyOne7 _
            intro v2 w9 hown9 hg9 hat9
            have hX9 : Keeps (fun i => (Value.slice ag G.length cg).ownBlock = some i) w8 w9 := hX1.grown hg9 (fun i hi _ => hi)
            have hG9 : (G.map keyCells).flatten ++ [keyCells p.1].flatten = ((G ++ [p.1]).map keyCells).flatten := by simp
            rw [hG9] at hown9
            obtain ⟨a9, c9, rfl, hs9, _⟩ := SlK.ofOwn (by decide) (keys_wide' _) hown9
            have hb9 := hX9.blk r1 r5
            have hf9 := frozen_of_row w9 bw 1 _ _ hb9
            have hat9' : ∀ g, (Value.slice a9 (G.length + 1) c9).ownBlock = some g → (Value.slice ag G.length cg).ownBlock = some g ∨ w8.heap.size ≤ g := fun g hg => by
              rcases hat9 g hg with h | h
              · exact .inl h
              · exact .inr (by rw [h]; simp)
            have Hat := Lib.hid hat9'
            clear hat9 hat9' hG9
            refine hK.out (fun wx => wx.cell? ⟨bw, 1, none⟩ = some (.slice ag G.length cg) ∧ wx.cell? ⟨wr.heap.size, 3, none⟩ = some (.int .i64 p.1.1.1) ∧ wx.cell? ⟨wr.heap.size, 4, none⟩ = some (.int .i64 p.1.2.1.1) ∧ wx.cell? ⟨wr.heap.size, 5, none⟩ = some (.int .i64 p.1.2.2.1)) _ _ (fun _ h => h) (fun _ => HS'.out _ hX9) ?_
            clear hK K hS
            intro hS
            replace hS := hS rfl
            refine aloneL (i := 10) (oi := ⟨some 148, _, _, _, _, _⟩) rfl (by kernel_rfl) (by rfl) (fun K hK => ?_); go_simp
            refine hK.out (fun wx => wx.cell? ⟨bw, 1, none⟩ = some (.slice ag G.length cg) ∧ wx.cell? ⟨wr.heap.size, 3, none⟩ = some (.int .i64 p.1.1.1) ∧ wx.cell? ⟨wr.heap.size, 4, none⟩ = some (.int .i64 p.1.2.1.1) ∧ wx.cell? ⟨wr.heap.size, 5, none⟩ = some (.int .i64 p.1.2.2.1)) _ _ (fun _ h => h) (fun _ => hS) ?_
            clear hK K
            intro _
            refine tkL (i := 11) (oi := ⟨some 149, _, _, _, _, _⟩) (v := ?_) rfl (by kernel_rfl) (fun _ _ _ h => h) (by assumption) (by rfl) (fun w hSw => ?_) ?_; rotate_left; (focus (first | (go_simp; done) | (go_simp; with_reducible rfl))); simp only [Act.put, List.setIfInBounds_toArray, List.set_cons_zero, List.set_cons_succ]
            refine aloneL (i := 12) (oi := ⟨none, _, _, _, _, _⟩) rfl (by kernel_rfl) (by rfl) (fun K hK => ?_); go_simp
            refine hK.out (fun wx => wx.cell? ⟨bw, 1, none⟩ = some (.slice ag G.length cg) ∧ wx.cell? ⟨wr.heap.size, 3, none⟩ = some (.int .i64 p.1.1.1) ∧ wx.cell? ⟨wr.heap.size, 4, none⟩ = some (.int .i64 p.1.2.1.1) ∧ wx.cell? ⟨wr.heap.size, 5, none⟩ = some (.int .i64 p.1.2.2.1)) _ _ (fun _ h => h) (fun e => absurd (show true = false from e) (by decide)) ?_
            clear hK K hS
            intro hS
            refine doneL (by kernel_rfl) ?_ _
            clear hS
            go_wp2_with fail
            go_meet
            obtain ⟨Hv', hv9, hsv⟩ := RVF.goneStep hRV hRO hRl hX9 hown9 Hat.out
            obtain ⟨H', hr9, hs9'⟩ := back _ _ _ _ hv9 hsv
            exact PgCut.mk' hP7 hk7 hbN m3 m4 hd8 hs8 hr9 hs9' HKl.out (by omega) (by omega) (by simp; omega)
      have e4 : (q == 4) = false := by rw [beq_eq_false_iff_ne]; exact q4
      clear q4
      by_cases q5 : q = 5
      · as_aux_lemma =>
            have e5 : (q == 5) = true := by rw [beq_iff_eq]; exact q5
            clear q5 same
            have hwd := pv_crash bd bv F D A G w7 aK nK cK pK hP7.1 (hKp.kept hk7) hKd
            obtain ⟨l1, l2⟩ := crash_len7 D pK
            go_wp2_with fail
            refine hwd.mono ?_
            rintro e w8 ⟨rfl, F8, hd8, hs8⟩
            have hk8 : Keeps No w w8 := hk7.trans hs8.keeps (fun i hi h => absurd (hP7.2.2.2.1 i h) (by omega))
            have hrw := pr_crash br bw H D A G w8 aK nK cK pK (hP7.ref hs8.keeps) (by rw [HKl.out]; omega) (hKp.kept hk8) hKr
            have hb8 := hs8.keeps.blk hbN m3
            obtain ⟨_, z1, z2, z3, z4, z5, z6, z7, z8, z9⟩ := cells10 hb8
            clear hwd
            go_wp2_with fail
            refine hrw.mono ?_
            rintro e w9 ⟨rfl, H9, hr9, hs9⟩
            go_wp2_with fail
            go_meet
            exact PgCut.mk' hP7 hk7 hbN m3 m4 hd8 hs8 hr9 hs9 (by rw [l1]; exact HKl.out) (by omega) (by omega) (by omega)
      have e5 : (q == 5) = false := by rw [beq_eq_false_iff_ne]; exact q5
      clear q5
      by_cases q6 : q = 6
      · as_aux_lemma =>
            have e6 : (q == 6) = true := by rw [beq_iff_eq]; exact q6
            clear q6 same
            have hwd := pv_sync bd bv F D A G w7 hP7.1
            obtain ⟨l1, l2⟩ := sync_len7 D
            go_wp2_with fail
            refine hwd.mono ?_
            rintro e w8 ⟨rfl, F8, hd8, hs8⟩
            have hrw := pr_sync br bw H D A G w8 (hP7.ref hs8.keeps)
            clear hwd
            go_wp2_with fail
            refine hrw.mono ?_
            rintro e w9 ⟨rfl, H9, hr9, hs9⟩
            go_wp2_with fail
            go_meet
            exact PgCut.mk' hP7 hk7 hbN m3 m4 hd8 hs8 hr9 hs9 (by rw [l1]; exact HKl.out) (by omega) (by omega) (by omega)
      have e6 : (q == 6) = false := by rw [beq_eq_false_iff_ne]; exact q6
      clear q6
      by_cases q7 : q = 7
      · as_aux_lemma =>
            have e7 : (q == 7) = true := by rw [beq_iff_eq]; exact q7
            clear q7 same
            have hwd := pv_limit bd bv F D A G w7 bl hP7.1 hblw.2
            go_wp2_with fail
            refine hwd.mono ?_
            rintro e w8 ⟨rfl, F8, hd8, hs8⟩
            have hrw := pr_limit br bw H D A G w8 bl (hP7.ref hs8.keeps) hblw.2
            have hb8 := hs8.keeps.blk hbN m3
            obtain ⟨_, z1, z2, z3, z4, z5, z6, z7, z8, z9⟩ := cells10 hb8
            clear hwd
            go_wp2_with fail
            refine hrw.mono ?_
            rintro e w9 ⟨rfl, H9, hr9, hs9⟩
            go_wp2_with fail
            go_meet
            exact PgCut.mk' hP7 hk7 hbN m3 m4 hd8 hs8 hr9 hs9 HKl.out (Nat.le_succ_of_le hWl) (by omega) (by omega)
      have e7 : (q == 7) = false := by rw [beq_eq_false_iff_ne]; exact q7
      clear q7
      go_wp2_with fail
      go_meet
      exact same
    case rest =>
      as_aux_lemma =>
          clear hP7 m3 m4 hbN x0 x1 x2 x3 x4 x5 x6 x7 x8 x9 hBd hBr hKd hKr hkr hkN hk7 HKl hWl hAl hGl hzN'
          obtain ⟨D, A, G, F, H, e, rfl, rfl, hP, hKl, hWl, hAl, hGl, hbO, m3, m4, hk⟩ := hcut
          have HKl := Lib.hid hKl
          clear hKl
          generalize wr.heap.size = gO at hbO m3 m4 ⊢
          obtain ⟨y0, y1, y2, y3, y4, y5, y6, y7, y8, y9⟩ := cells10 hbO
          obtain ⟨R, hR⟩ : ∃ R, preadA D A G bl p = R := ⟨_, rfl⟩
          have hrd := pread_any bd bv F D A G bl p _ hP.1 Hbl.out (by omega)
          rw [hR] at hrd
          unfold pgCells at hrd
          go_wp2_with fail
          refine hrd.mono ?_
          rintro e1 w8 ⟨v8, rfl, hk8, hown8⟩
          clear hrd y0 y1 y2 y3 y4 y5 y6 y7 y8 y9
          have hP8 := hP.kept hk8
          have hb8 := hk8.blk hbO (not_No _)
          obtain ⟨y0, y1, y2, y3, y4, y5, y6, y7, y8, y9⟩ := cells10 hb8
          have hrr := rpread_any br bw H D A G bl p w8 hP8.2.1 Hbl.out (by omega) (by omega)
          rw [hR] at hrr
          unfold pgCells at hrr
          obtain ⟨a8, c8, rfl, hs8, _⟩ := Sl.ofOwn hown8
          clear hR hown8
          go_wp2_with fail
          refine hrr.mono ?_
          rintro e1 w9 ⟨rfl, hk9⟩
          clear hrr y0 y1 y2 y3 y4 y5 y6 y7 y8 y9
          have hP9 := hP8.kept hk9
          have hs9 := hs8.kept hk9
          have hk09 := (hk.transNo hk8).transNo hk9
          obtain ⟨Hv, ⟨vl, vg, hRV, _⟩, _⟩ := hP9.2.1.vault
          obtain ⟨r1, r2, _⟩ := hRV
          obtain ⟨al, cl, rfl, _, _⟩ := SlK.ofOwn (xs := A.map recCells) (by decide) (recs_wide A) r2
          have hcr := fun wy (hy : Keeps No w9 wy) => cell_of_row wy bw 0 _ _ (0, 0) (hy.blk r1 (not_No _))
          have hst := fun wy (hy : Keeps No w9 wy) => strB (hs9.kept hy)
          go_wp2_with fail
          refine wp_region_held_drew (S := fun wy => Keeps No w9 wy ∧ wy.cell? ⟨bw, 0, none⟩ = some (.slice al A.length cl) ∧ (convert 35 9 (.slice a8 R.1.length c8)).run Tryd.prog wy = .ok (.string ⟨R.1.toArray⟩) wy) (by kernel_rfl) (⟨(Keeps.refl _ _).drew, hcr _ (Keeps.refl _ _).drew, hst _ (Keeps.refl _ _).drew⟩) (fun hS => ?_)
          refine tk (i := 0) (oi := ⟨some 196, _, _, _, _, _⟩) (v := ?_) rfl (by kernel_rfl) (fun _ _ _ h => h) (by assumption) (by rfl) (fun w hSw => ?_) ?_; rotate_left; (focus (first | (go_simp; done) | (go_simp; with_reducible rfl))); simp only [Act.put, List.setIfInBounds_toArray, List.set_cons_zero, List.set_cons_succ]
          refine tk (i := 1) (oi := ⟨some 197, _, _, _, _, _⟩) (v := ?_) rfl (by kernel_rfl) (fun _ _ _ h => h) (by assumption) (by rfl) (fun w hSw => ?_) ?_; rotate_left; (focus (first | (go_simp; done) | (go_simp; with_reducible rfl))); simp only [Act.put, List.setIfInBounds_toArray, List.set_cons_zero, List.set_cons_succ]
          refine tk (i := 2) (oi := ⟨some 198, _, _, _, _, _⟩) (v := ?_) rfl (by kernel_rfl) (fun _ _ _ h => h) (by assumption) (by rfl) (fun w hSw => ?_) ?_; rotate_left; (focus (first | (go_simp; done) | (go_simp; with_reducible rfl))); simp only [Act.put, List.setIfInBounds_toArray, List.set_cons_zero, List.set_cons_succ]
          refine tk (i := 3) (oi := ⟨some 199, _, _, _, _, _⟩) (v := ?_) rfl (by kernel_rfl) (fun _ _ _ h => h) (by assumption) (by rfl) (fun w hSw => ?_) ?_; rotate_left; (focus (first | (go_simp; done) | (go_simp; with_reducible rfl))); simp only [Act.put, List.setIfInBounds_toArray, List.set_cons_zero, List.set_cons_succ]
          refine tk (i := 4) (oi := ⟨some 200, _, _, _, _, _⟩) (v := ?_) rfl (by kernel_rfl) (fun _ _ _ h => h) (by assumption) (by rfl) (fun w hSw => ?_) ?_; rotate_left; (focus (first | (go_simp; done) | (go_simp; with_reducible rfl))); simp only [Act.put, List.setIfInBounds_toArray, List.set_cons_zero, List.set_cons_succ]
          refine tk (i := 5) (oi := ⟨some 201, _, _, _, _, _⟩) (v := ?_) rfl (by kernel_rfl) (fun _ _ _ h => h) (by assumption) (by rfl) (fun w hSw => ?_) ?_; rotate_left; (focus (first | (go_simp; done) | (go_simp; with_reducible rfl))); simp only [Act.put, List.setIfInBounds_toArray, List.set_cons_zero, List.set_cons_succ]
          refine tk (i := 6) (oi := ⟨some 202, _, _, _, _, _⟩) (v := ?_) rfl (by kernel_rfl) (fun _ _ _ h => h) (by assumption) (by rfl) (fun w hSw => ?_) ?_; rotate_left; (focus (first | (go_simp; done) | (go_simp; with_reducible rfl))); simp only [Act.put, List.setIfInBounds_toArray, List.set_cons_zero, List.set_cons_succ]
          refine tk (i := 7) (oi := ⟨some 203, _, _, _, _, _⟩) (v := ?_) rfl (by kernel_rfl) (fun _ _ _ h => h) (by assumption) (by rfl) (fun w hSw => ?_) ?_; rotate_left; (focus (first | (go_simp; done) | (go_simp; with_reducible rfl))); simp only [Act.put, List.setIfInBounds_toArray, List.set_cons_zero, List.set_cons_succ]
          refine tk (i := 8) (oi := ⟨some 204, _, _, _, _, _⟩) (v := ?_) rfl (by kernel_rfl) (fun _ _ _ h => h) (by assumption) (by rfl) (fun w hSw => ?_) ?_; rotate_left; (focus (first | (go_simp; done) | (go_simp; with_reducible rfl))); simp only [Act.put, List.setIfInBounds_toArray, List.set_cons_zero, List.set_cons_succ]
          refine tk (i := 9) (oi := ⟨some 205, _, _, _, _, _⟩) (v := ?_) rfl (by kernel_rfl) (fun _ _ _ h => h) (by assumption) (by rfl) (fun w hSw => ?_) ?_; rotate_left; (focus (first | (go_simp; done) | (go_simp; with_reducible rfl))); simp only [Act.put, List.setIfInBounds_toArray, List.set_cons_zero, List.set_cons_succ]
          refine tk (i := 10) (oi := ⟨some 206, _, _, _, _, _⟩) (v := ?_) rfl (by kernel_rfl) (fun _ _ _ h => h) (by assumption) (by rfl) (fun w hSw => ?_) ?_; rotate_left; (focus (first | (go_simp; done) | (go_simp; with_reducible rfl))); simp only [Act.put, List.setIfInBounds_toArray, List.set_cons_zero, List.set_cons_succ]
          refine tk (i := 11) (oi := ⟨some 207, _, _, _, _, _⟩) (v := ?_) rfl (by kernel_rfl) (fun _ _ _ h => h) (by assumption) (by rfl) (fun w hSw => ?_) ?_; rotate_left; (focus (first | (go_simp; done) | (go_simp; with_reducible rfl))); simp only [Act.put, List.setIfInBounds_toArray, List.set_cons_zero, List.set_cons_succ]
          refine tk (i := 12) (oi := ⟨some 208, _, _, _, _, _⟩) (v := ?_) rfl (by kernel_rfl) (fun _ _ _ h => h) (by assumption) (by rfl) (fun w hSw => ?_) ?_; rotate_left; (focus (first | (go_simp; done) | (go_simp; with_reducible rfl))); simp only [Act.put, List.setIfInBounds_toArray, List.set_cons_zero, List.set_cons_succ]
          refine tk (i := 13) (oi := ⟨some 209, _, _, _, _, _⟩) (v := ?_) rfl (by kernel_rfl) (fun _ _ _ h => h) (by assumption) (by rfl) (fun w hSw => ?_) ?_; rotate_left; (focus (first | (go_simp; done) | (go_simp; with_reducible rfl))); simp only [Act.put, List.setIfInBounds_toArray, List.set_cons_zero, List.set_cons_succ]
          refine tk (i := 14) (oi := ⟨some 210, _, _, _, _, _⟩) (v := ?_) rfl (by kernel_rfl) (fun _ _ _ h => h) (by assumption) (by rfl) (fun w hSw => ?_) ?_; rotate_left; (focus (first | (go_simp; done) | (go_simp; with_reducible rfl))); simp only [Act.put, List.setIfInBounds_toArray, List.set_cons_zero, List.set_cons_succ]
          refine tk (i := 15) (oi := ⟨some 211, _, _, _, _, _⟩) (v := ?_) rfl (by kernel_rfl) (fun _ _ _ h => h) (by assumption) (by rfl) (fun w hSw => ?_) ?_; rotate_left; (focus (first | (go_simp; done) | (go_simp; with_reducible rfl))); simp only [Act.put, List.setIfInBounds_toArray, List.set_cons_zero, List.set_cons_succ]
          refine tk (i := 17) (oi := ⟨some 213, _, _, _, _, _⟩) (v := ?_) rfl (by kernel_rfl) (fun _ _ _ h => h) (by assumption) (by rfl) (fun w hSw => ?_) ?_; rotate_left; (focus (first | (go_simp; done) | (go_simp; with_reducible rfl))); simp only [Act.put, List.setIfInBounds_toArray, List.set_cons_zero, List.set_cons_succ]
          refine tk (i := 18) (oi := ⟨some 214, _, _, _, _, _⟩) (v := ?_) rfl (by kernel_rfl) (fun _ _ _ h => h) (by assumption) (by rfl) (fun w hSw => ?_) ?_; rotate_left; (focus (first | (go_simp; done) | (go_simp; with_reducible rfl))); simp only [Act.put, List.setIfInBounds_toArray, List.set_cons_zero, List.set_cons_succ]
          refine tk (i := 19) (oi := ⟨some 215, _, _, _, _, _⟩) (v := ?_) rfl (by kernel_rfl) (fun _ _ _ h => h) (by assumption) (by rfl) (fun w hSw => ?_) ?_; rotate_left; (focus (first | (go_simp; done) | (go_simp; with_reducible rfl))); simp only [Act.put, List.setIfInBounds_toArray, List.set_cons_zero, List.set_cons_succ]
          refine tk (i := 20) (oi := ⟨some 216, _, _, _, _, _⟩) (v := ?_) rfl (by kernel_rfl) (fun _ _ _ h => h) (by assumption) (by rfl) (fun w hSw => ?_) ?_; rotate_left; (focus (first | (go_simp; done) | (go_simp; with_reducible rfl))); simp only [Act.put, List.setIfInBounds_toArray, List.set_cons_zero, List.set_cons_succ]
          refine tk (i := 21) (oi := ⟨some 217, _, _, _, _, _⟩) (v := ?_) rfl (by kernel_rfl) (fun _ _ _ h => h) (by assumption) (by rfl) (fun w hSw => ?_) ?_; rotate_left; (focus (first | (go_simp; done) | (go_simp; with_reducible rfl))); simp only [Act.put, List.setIfInBounds_toArray, List.set_cons_zero, List.set_cons_succ]
          refine alone (i := 16) (oi := ⟨some 212, _, _, _, _, _⟩) rfl (by kernel_rfl) (by rfl) (fun K hK => ?_); go_simp
          refine (pv_sealed bd bv F D A G _ (hP9.1.kept hS.1)).mono ?_
          rintro e1 w10 ⟨rfl, rfl⟩
          go_simp
          refine hK.out (fun wy => Keeps No w9 wy ∧ wy.cell? ⟨bw, 0, none⟩ = some (.slice al A.length cl) ∧ (convert 35 9 (.slice a8 R.1.length c8)).run Tryd.prog wy = .ok (.string ⟨R.1.toArray⟩) wy) _ _ (fun _ h => h) (hS) ?_
          clear hK K hS
          intro hS
          refine tk (i := 22) (oi := ⟨some 218, _, _, _, _, _⟩) (v := ?_) rfl (by kernel_rfl) (fun _ _ _ h => h) (by assumption) (by rfl) (fun w hSw => ?_) ?_; rotate_left; (focus (first | (go_simp; done) | (go_simp; with_reducible rfl))); simp only [Act.put, List.setIfInBounds_toArray, List.set_cons_zero, List.set_cons_succ]
          refine tk (i := 23) (oi := ⟨some 219, _, _, _, _, _⟩) (v := ?_) rfl (by kernel_rfl) (fun _ _ _ h => h) (by assumption) (by rfl) (fun w hSw => ?_) ?_; rotate_left; (focus (first | (go_simp; done) | (go_simp; with_reducible rfl))); simp only [Act.put, List.setIfInBounds_toArray, List.set_cons_zero, List.set_cons_succ]
          refine wpAnyH_done (by kernel_rfl) ?_ _
          go_wp2_with fail
          go_roundg (n1 - (j + 1))
          case measure => have := Hq.out; omega
          case rel => exact ⟨j + 1, D, A, G, F, H, by omega, rfl, by go_num, hP9.kept hS.1, HKl, by omega, by omega, by omega, hk09.transNo hS.1⟩
theorem pagePlays_walk (bs : Int) (a1 : Option Addr) (n1 c1 : Nat) (L : List OPP) (w : World) (hbs : (Lit.int .i64 bs).wf = true)
    (hs1 : SlK w 10 a1 n1 c1 (L.map oppV)) (hL : ∀ o ∈ L, OppOk w o) :
    Calls Tryd.prog 8 #[.int .i64 bs, .slice a1 n1 c1] w fun e w' => e = .returned (.bool true) ∧ Keeps No w w' := pagePlays_any bs a1 n1 c1 L w hbs hs1 hL
end Go.Proofs.YthimnkmoeonheaaDoor
