/- The walk of PageSwaps. -/
import Derived.Test.YthimnkmoeonheaaDoorPlainPageS
import Derived.Test.YthimnkmoeonheaaDoorRowKit
namespace Go.Proofs.YthimnkmoeonheaaDoor
open Go.RowKit
set_option linter.unusedSimpArgs false
set_option linter.unusedVariables false
set_option maxRecDepth 100000

theorem bytes_infoS : (Tryd.prog.info? 35).map (fun i => (i.zero, i.size, i.bytes)) = some (some (.slice none 0 0), 1, 24) := by kernel_rfl
theorem ix12 (g i : Nat) (hi : i < 12) (w : World) : (Instr.indexAt 48 (.pointer (some ⟨g, 0, none⟩)) (.int .i64 (i : Int))).run Tryd.prog w = .ok (.pointer (some ⟨g, i, none⟩)) w := by
  have h := run_indexAt_array (P := Tryd.prog) (w := w) 48 ⟨g, 0, none⟩ .i64 (i : Int) (by kernel_rfl)
  rw [if_pos ⟨by omega, by rw [show Tryd.prog.arrayLen 48 = 12 by kernel_rfl]; omega⟩, show (sizeOf (Tryd.prog.elem 48)).run Tryd.prog w = .ok 1 w by kernel_rfl] at h
  simpa [Addr.add_lit, Result.andThen] using h
def atL (f : Nat → Nat) : List Value := (List.range 12).map fun i => .int .i64 ((f i : Nat) : Int)
theorem atL_congr {f g : Nat → Nat} (h : ∀ i, i < 12 → f i = g i) : atL f = atL g := by
  unfold atL
  exact List.map_congr_left fun i hi => by rw [h i (List.mem_range.1 hi)]
theorem atL_get (f : Nat → Nat) (i : Nat) (hi : i < 12) : (atL f)[i]? = some (.int .i64 ((f i : Nat) : Int)) := by simp [atL, hi]
theorem atL_set (f : Nat → Nat) (k t : Nat) : (atL f).set k (.int .i64 (t : Int)) = atL (fun i => if i = k then t else f i) := by
  apply List.ext_getElem?
  intro i
  by_cases hi : i < 12
  · rw [List.getElem?_set, atL_get _ i hi]
    by_cases e : k = i
    · subst e; simp [atL, hi]
    · rw [if_neg e, atL_get _ i hi, if_neg (fun h => e h.symm)]
  · rw [List.getElem?_eq_none (by simp [atL]; omega), List.getElem?_eq_none (by simp [atL]; omega)]

/-- The slices of bytes that were read: apart from X. -/
def Raws (w : World) (X : Nat → Prop) (v : Value) (k : Nat) : Prop :=
  ∃ vs, w.ownsRow 0 35 1 v k vs ∧ (∀ g, v.ownBlock = some g → ¬ X g) ∧ ∀ j, j < k → ∃ g c, vs[j]? = some (.slice (some ⟨g, 0, none⟩) 16 c) ∧ Sl w (some ⟨g, 0, none⟩) 16 c ((hd7 j).map byteV) ∧ ¬ X g ∧ v.ownBlock ≠ some g
theorem Raws.nil (w : World) (X : Nat → Prop) : Raws w X (.slice none 0 0) 0 := ⟨[], World.ownsRow_nil _ _ _ _, fun g h => (by cases h), fun j h => (by omega)⟩
theorem Raws.keep {w w' : World} {X X' S : Nat → Prop} {v : Value} {k : Nat} (h : Raws w X v k) (hk : Keeps S w w') (hS : ∀ i, S i → X i) (hX : ∀ i, X' i → X i ∨ w.heap.size ≤ i) : Raws w' X' v k := by
  obtain ⟨vs, h1, h2, h3⟩ := h
  refine ⟨vs, hk.own h1 (fun i hi h => h2 i hi (hS i h)), fun g hg hx => ?_, fun j hj => ?_⟩
  · rcases hX g hx with h | h
    · exact h2 g hg h
    · have := (h1.lt g hg).2; omega
  · obtain ⟨g, c, e1, e2, e3, e4⟩ := h3 j hj
    refine ⟨g, c, e1, e2.keep hk (fun _ h => e3 (hS _ h)), fun hx => ?_, e4⟩
    rcases hX g hx with h | h
    · exact e3 h
    · have := e2.lt (by omega); simp at this; omega
theorem Raws.push {w w' : World} {X : Nat → Prop} {v v' : Value} {k g c : Nat} (vs : List Value) (h1 : w.ownsRow 0 35 1 v k vs) (h2 : ∀ g, v.ownBlock = some g → ¬ X g)
    (h3 : ∀ j, j < k → ∃ g c, vs[j]? = some (.slice (some ⟨g, 0, none⟩) 16 c) ∧ Sl w (some ⟨g, 0, none⟩) 16 c ((hd7 j).map byteV) ∧ ¬ X g ∧ v.ownBlock ≠ some g)
    (hown : w'.ownsRow 0 35 1 v' (k + 1) (vs ++ [.slice (some ⟨g, 0, none⟩) 16 c])) (hg : w.grownBy w' v.ownBlock) (hat : ∀ i, v'.ownBlock = some i → v.ownBlock = some i ∨ w.heap.size ≤ i)
    (hX : ∀ i, X i → i < w.heap.size) (hs : Sl w (some ⟨g, 0, none⟩) 16 c ((hd7 k).map byteV)) (hgX : ¬ X g) (hgv : v.ownBlock ≠ some g) : Raws w' X v' (k + 1) := by
  have hk : Keeps (fun i => v.ownBlock = some i) w w' := (Keeps.refl _ w).grown hg (fun i hi _ => hi)
  refine ⟨_, hown, fun i hi hx => ?_, fun j hj => ?_⟩
  · rcases hat i hi with h | h
    · exact h2 i h hx
    · have := hX i hx; omega
  · have hlen : vs.length = k := by simpa using h1.1
    by_cases e : j < k
    · obtain ⟨g', c', e1, e2, e3, e4⟩ := h3 j e
      refine ⟨g', c', by rw [List.getElem?_append_left (by omega)]; exact e1, e2.keep hk (fun _ h => e4 h), e3, fun h => ?_⟩
      rcases hat g' h with h | h
      · exact e4 h
      · have := e2.lt (by omega); simp at this; omega
    · obtain rfl : j = k := by omega
      refine ⟨g, c, by rw [List.getElem?_append_right (by omega), hlen]; simp, hs.keep hk (fun _ h => hgv h), hgX, fun h => ?_⟩
      rcases hat g h with h | h
      · exact hgv h
      · have := hs.lt (by omega); simp at this; omega

set_option maxHeartbeats 4000000 in
theorem pageSwaps_any (ar : Option Addr) (n c : Nat) (L : List UInt8) (w : World) (hs : Sl w ar n c (L.map byteV)) (hn : n ≤ 140737488355328) :
    Calls Tryd.prog 5 #[.slice ar n c] w fun e w' => e = .returned (.bool true) ∧ Keeps No w w' := by
  have hlen : L.length = n := by simpa using hs.len
  have Hlen := Lib.hid hlen
  clear hlen
  go_enter Tryd.func5, Tryd.ntmps5
  go_wp2_with fail
  refine (first07_any _).mono ?_
  rintro e w1 ⟨rfl, hk1⟩
  go_wp2_with fail
  refine (d_new 12 w1 (by omega) (by omega)).mono ?_
  rintro e w2 ⟨bd, Fd, rfl, hd2, hF, hk2⟩
  go_wp2_with fail
  refine (f_new w2).mono ?_
  rintro e w3 ⟨bv, Fv, rfl, hv3, hF3, hk3⟩
  obtain ⟨F, hV, hFw⟩ := pvnew 12 w1 bd bv Fd Fv _ [] [] w2 w3 hd2 hF hv3 hF3 hk2 hk3
  have hk13 := hk2.transNo hk3
  have hk03 := hk1.transNo hk13
  have hz13 := hk13.size
  have hS0 := Swp.new
  generalize (⟨List.replicate 12 (full []), [], none⟩ : DS) = D0 at hV hS0
  clear hd2 hv3 hF hF3 hk2 hk3 hk13
  have hcp : (pgCells p7).toArray = #[.int .i64 0, .int .i64 0, .int .i64 0, .int .i64 7, .int .i64 0] := rfl
  go_wp2_with fail
  go_loopg [24, 6] 12 (fun q i raw wr => ∃ (k : Nat) (D : DS) (F : Nat → Prop), k ≤ 12 ∧ q = 12 - k ∧ i = .int .i64 (k : Int) ∧ Swp D id k ∧ PV wr bd bv F D (A7 k) [] ∧ Raws wr F raw k ∧ (∀ i, raw.ownBlock = some i → w1.heap.size ≤ i) ∧ (∀ i, F i → w1.heap.size ≤ i) ∧ Keeps No w wr ∧ w1.heap.size ≤ wr.heap.size)
  case atStart => exact ⟨0, D0, F, by omega, rfl, rfl, hS0, hV, Raws.nil _ _, fun i h => (by cases h), hFw, hk03, hz13⟩
  case round =>
    clear hS0 hV hFw hk03
    obtain ⟨k, D, F, hk, hq, rfl, hS, hV, hR, hRw, hFw, hkr, hzr⟩ := hrel
    have Hq := Lib.hid hq
    clear hq
    by_cases hlt : k < 12
    case neg =>
      obtain rfl : k = 12 := by omega
      have hgR : ∃ gR cR, u6 = .slice (some ⟨gR, 0, none⟩) 12 cR := by obtain ⟨vs, q1, _⟩ := hR; exact own_form q1 (by omega)
      obtain ⟨gR, cR, rfl⟩ := hgR
      have hRw' := hRw gR rfl
      have hFlt := hV.lt
      have hRlt : gR < wr.heap.size := by obtain ⟨vs, q1, _⟩ := hR; exact (q1.lt gR rfl).2
      have hown4 := World.ownsRow_lit (base := 0) (size := 1) (e := 48) wr #[.int .i64 0, .int .i64 0, .int .i64 0, .int .i64 0, .int .i64 0, .int .i64 0, .int .i64 0, .int .i64 0, .int .i64 0, .int .i64 0, .int .i64 0, .int .i64 0] 12 (Nat.zero_le _) (by decide) rfl
      rw [show (#[.int .i64 0, .int .i64 0, .int .i64 0, .int .i64 0, .int .i64 0, .int .i64 0, .int .i64 0, .int .i64 0, .int .i64 0, .int .i64 0, .int .i64 0, .int .i64 0] : Array Value).toList = atL (fun i => if i < 0 then i else 0) from by simp [atL, List.range, List.range.loop]] at hown4
      have hk4 : Keeps No wr (wr.alloc (.cells #[.int .i64 0, .int .i64 0, .int .i64 0, .int .i64 0, .int .i64 0, .int .i64 0, .int .i64 0, .int .i64 0, .int .i64 0, .int .i64 0, .int .i64 0, .int .i64 0] 48)) := (Keeps.refl No _).alloc _
      have hz4 := hk4.size
      go_wp2_with fail
      generalize (wr.alloc (.cells #[.int .i64 0, .int .i64 0, .int .i64 0, .int .i64 0, .int .i64 0, .int .i64 0, .int .i64 0, .int .i64 0, .int .i64 0, .int .i64 0, .int .i64 0, .int .i64 0] 48)) = w4 at hown4 hk4 hz4 ⊢
      have hV4 := hV.kept hk4
      have hX : ∀ i, (F i ∨ i = wr.heap.size) → F i ∨ wr.heap.size ≤ i := fun i h => h.imp_right (fun h => by omega)
      have hR4 : Raws w4 (fun i => F i ∨ i = wr.heap.size) _ 12 := hR.keep hk4 (fun _ h => h.elim) hX
      have hk04 := hkr.transNo hk4
      have hgF : ¬ F wr.heap.size := fun h => by have := hFlt _ h; omega
      have hgw : w1.heap.size ≤ wr.heap.size := hzr
      have hgR' : gR ≠ wr.heap.size := by omega
      generalize wr.heap.size = g at hown4 hR4 hgF hgw hgR' ⊢
      clear hX hV hR hk4 hkr hRw hFlt hRlt hz4 hzr
      go_loopg [48] 12 (fun q i wx => ∃ k, k ≤ 12 ∧ q = 12 - k ∧ i = .int .i64 ((k : Nat) : Int) ∧ wx.ownsRow 0 48 1 (.slice (some ⟨g, 0, none⟩) 12 12) 12 (atL (fun i => if i < k then i else 0)) ∧ Keeps (fun i => i = g) w4 wx)
      case atStart => exact ⟨0, by omega, rfl, rfl, hown4, Keeps.refl _ _⟩
      case round =>
        clear hown4
        obtain ⟨k, hk2, hq, rfl, hor, hkx⟩ := hrel
        have Hq2 := Lib.hid hq
        clear hq
        by_cases hlt2 : k < 12
        · have hix := ix12 g k hlt2
          have hcm := hor.cellAt k (by omega)
          rw [atL_get _ k hlt2] at hcm
          have hfm := hor.frozenAt k
          have hst := (hor.stored k (.int .i64 (k : Int))).1
          rw [atL_set, atL_congr (g := fun i => if i < k + 1 then i else 0) (fun i hi => by by_cases e : i = k <;> simp [e]; by_cases e2 : i < k <;> simp [e2] <;> omega)] at hst
          have Hst := Lib.hid hst
          clear hst
          go_wp2_with fail
          go_roundg (12 - (k + 1))
          case measure => have := Hq2.out; omega
          case rel => exact ⟨k + 1, by omega, rfl, by go_num, Hst.out, hkx.setCell (p := ⟨g, k, none⟩) (fun _ => rfl) _⟩
        obtain rfl : k = 12 := by omega
        rw [atL_congr (g := id) (fun i hi => by simp [hi])] at hor
        have hVx := hV4.keep hkx (fun i hi h => hgF (by rw [← h]; exact hi))
        have hRx : Raws wr (fun i => F i ∨ i = g) _ 12 := hR4.keep hkx (fun i h => .inr h) (fun i h => .inl h)
        have hk0x : Keeps No w wr := hk04.trans hkx (fun i hi h => by have := hk1.size; omega)
        generalize wr = w5 at hor hVx hRx hk0x ⊢
        clear hkx hV4 hR4 hk04
        go_wp2_with fail
        go_loopg [57] n (fun q i wx => ∃ (j : Nat) (f : Nat → Nat) (D : DS) (F : Nat → Prop), j ≤ n ∧ q = n - j ∧ i = .int .i64 (j : Int) ∧ Hid (∀ i, i < 12 → f i < 12) ∧ Swp D f 12 ∧ PV wx bd bv F D (A7 12) [] ∧ Raws wx (fun i => F i ∨ i = g) (.slice (some ⟨gR, 0, none⟩) 12 cR) 12 ∧ wx.ownsRow 0 48 1 (.slice (some ⟨g, 0, none⟩) 12 12) 12 (atL f) ∧ ¬ F g ∧ (∀ i, F i → w1.heap.size ≤ i) ∧ Keeps No w wx)
        case atStart => exact ⟨0, id, D, F, by omega, rfl, rfl, Lib.hid (fun i h => h), hS, hVx, hRx, hor, hgF, hFw, hk0x⟩
        case round =>
          clear hS hVx hRx hor hgF hFw hk0x
          obtain ⟨j, f, D, F, hj, hq, rfl, Hf, hS, hV, hR, hor, hgF, hFw, hkr⟩ := hrel
          have Hq3 := Lib.hid hq
          clear hq
          by_cases hlt3 : j < n
          · have hjL : j < L.length := by rw [Hlen.out]; exact hlt3
            have hix := hs.ix (P := Tryd.prog) Tryd.underlying35 (by kernel_rfl) hlt3 .i64
            have hcm := (hs.kept hkr).at_ hlt3
            obtain ⟨x, hx⟩ : ∃ x, x = L[j] := ⟨_, rfl⟩
            have hbv : (L.map byteV).getD j undef = .int .u8 (x.toNat : Int) := by rw [hx]; simp [hjL, byteV]
            rw [hbv] at hcm
            clear hx hbv
            by_cases hj12 : j < 12
            · have n1 : decide ((j : Int) < 12) = true := decide_eq_true (by omega)
              obtain ⟨t, ht⟩ : ∃ t, t = x.toNat % 12 := ⟨_, rfl⟩
              have ht12 : t < 12 := by omega
              have ht1 : (x.toNat : Int) % 12 = (t : Int) := by omega
              have ht2 : (x.toNat : Int).tmod 12 = (t : Int) := by rw [Int.tmod_eq_emod_of_nonneg (by omega)]; exact ht1
              have hix2 := ix12 g j hj12
              have hcm2 := hor.cellAt j (by omega)
              rw [atL_get _ j hj12] at hcm2
              have hfm := hor.frozenAt j
              have hst := (hor.stored j (.int .i64 (t : Int))).1
              rw [atL_set] at hst
              have hkS : Keeps (fun i => i = g) wr (wr.setCell ⟨g, j, none⟩ (.int .i64 (t : Int))) := Keeps.set wr g j _
              have hVS := hV.keep hkS (fun i hi h => hgF (by rw [← h]; exact hi))
              have hRS : Raws _ (fun i => F i ∨ i = g) _ 12 := hR.keep hkS (fun i h => .inr h) (fun i h => .inl h)
              have hk0S : Keeps No w _ := hkr.trans hkS (fun i hi h => by have := hk1.size; omega)
              have hcS := hst.cellAt j (by omega)
              rw [atL_get _ j hj12, if_pos rfl] at hcS
              have hRS' := hRS
              obtain ⟨vs, r1, r2, r3⟩ := hRS'
              obtain ⟨ar, cr, hre, hsr, _⟩ := Sl.ofOwn r1
              obtain ⟨rfl, rfl⟩ : some ⟨gR, 0, none⟩ = ar ∧ cR = cr := by
                simp only [Value.slice.injEq, true_and] at hre
                exact ⟨hre.1, hre.2⟩
              obtain ⟨gt, ct, e1, e2, e3, e4⟩ := r3 t ht12
              have hix3 := hsr.ix (P := Tryd.prog) Tryd.underlying47 (by kernel_rfl) ht12 .i64
              have hcm3 := hsr.cell t ht12
              rw [e1] at hcm3
              simp only [Option.getD_some, Addr.add_lit, Nat.zero_add] at hix3 hcm3
              obtain ⟨Fd, hd, hsub, back⟩ := hVS.dev
              have hcall := d_over bd Fd D j (some ⟨gt, 0, none⟩) 16 ct (hd7 t) _ hd e2 (by omega) (fun _ h => e3 (.inl (hsub _ h)))
              obtain ⟨E, hov, hSE⟩ := hS.over j t hj12
              rw [hov] at hcall
              have Hst := Lib.hid hst
              have Hov := Lib.hid hov
              clear hst hre hsr r1 r2 r3 e1 e3 e4 ht hov hV hR hor hd
              go_wp2_with fail
              refine hcall.mono ?_
              rintro e w7 ⟨rfl, hd7, hk7⟩
              obtain ⟨F7, hV7, hS7⟩ := back _ _ _ hd7 ⟨hk7, fun i hi => .inl hi⟩
              have hlS := (Hst.out.lt g rfl).2
              have hgF7 : ¬ F7 g := fun h => (hS7.fresh g h).elim hgF (fun h => by omega)
              go_wp2_with fail
              go_roundg (n - (j + 1))
              case measure => have := Hq3.out; omega
              case rel => exact ⟨j + 1, fun i => if i = j then t else f i, E, F7, by omega, rfl, by go_num, Lib.hid (fun i hi => by simp only; split; exact ht12; exact Hf.out i hi), hSE, hV7, hRS.keep hS7.keeps (fun i h => .inl h) (fun i h => h.elim (fun h => (hS7.fresh i h).imp_left .inl) (fun h => .inl (.inr h))), own_keepB Hst.out hS7.keeps hgF, hgF7, fun i hi => (hS7.fresh i hi).elim (hFw i) (fun h => by have := hk0S.size; have := hk1.size; omega), hk0S.trans hS7.keeps (fun i hi h => by have := hFw i h; have := hk1.size; omega)⟩
            · have n1 : decide ((j : Int) < 12) = false := decide_eq_false (by omega)
              go_wp2_with fail
              go_roundg (n - (j + 1))
              case measure => have := Hq3.out; omega
              case rel => exact ⟨j + 1, f, D, F, by omega, rfl, by go_num, Hf, hS, hV, hR, hor, hgF, hFw, hkr⟩
          · obtain rfl : j = n := by omega
            generalize wr = w5 at hor hV hR hkr ⊢
            clear hR
            go_wp2_with fail
            go_loopg [79] 12 (fun q i wx => ∃ k, k ≤ 12 ∧ q = 12 - k ∧ i = .int .i64 ((k : Nat) : Int) ∧ Keeps No w5 wx)
            case atStart => exact ⟨0, by omega, rfl, rfl, Keeps.refl _ _⟩
            case round =>
              obtain ⟨k, hk4, hq, rfl, hkx⟩ := hrel
              have Hq4 := Lib.hid hq
              clear hq
              by_cases hlt4 : k < 12
              · have w12 : ∀ x : Fin 12, (Lit.int .i64 (x.1 : Int)).wf = true := by decide
                have wk := w12 ⟨k, hlt4⟩
                have hcall := pread_any bd bv F D (A7 12) [] k p7 wr (hV.kept hkx) wk (by rw [A7_len]; omega)
                rw [hS.read k hlt4 (Hf.out k hlt4), hcp] at hcall
                have horx := (hor.lt g rfl).2
                clear w12 wk
                by_cases hfk : f k = k
                · rw [if_pos hfk] at hcall
                  go_wp2_with fail
                  refine hcall.mono ?_
                  rintro e w6 ⟨v6, rfl, hk6, hown6⟩
                  obtain ⟨a6, c6, rfl, hs6, _⟩ := Sl.ofOwn hown6
                  have hkA := hkx.transNo hk6
                  have hown := own_keepB hor hkA (not_No _)
                  have hix2 := ix12 g k hlt4
                  have hcm2 := hown.cellAt k (by omega)
                  rw [atL_get _ k hlt4, hfk] at hcm2
                  have hstr := strB hs6
                  have hlC := Sl.litK w6 #[.int .u8 (97 + (k : Int))] 5 (0, 0) (ch7 k) (by simp [byteV, ch7]; omega) 1 rfl (by decide)
                  have hkC : Keeps No w6 (w6.alloc (.cells #[.int .u8 (97 + (k : Int))] 5)) := (Keeps.refl No _).alloc _
                  have hstr2 := strB hlC
                  have hcm3 := (own_keepB hown hkC (not_No _)).cellAt k (by omega)
                  rw [atL_get _ k hlt4, hfk] at hcm3
                  have heq : (ch7 k == (⟨(ch7 k).toArray⟩ : ByteArray).toList) = true := by rw [ByteArray.toList_eq, beq_iff_eq]
                  clear hcall
                  go_wp2_with fail
                  go_roundg (12 - (k + 1))
                  case measure => have := Hq4.out; omega
                  case rel => exact ⟨k + 1, by omega, rfl, by go_num, hkA.transNo hkC⟩
                · rw [if_neg hfk] at hcall
                  have n1 : (((f k : Nat) : Int) == (k : Int)) = false := by rw [beq_eq_false_iff_ne]; omega
                  have n2 : (((f k : Nat) : Int) != (k : Int)) = true := by rw [bne, n1]; rfl
                  go_wp2_with fail
                  refine hcall.mono ?_
                  rintro e w6 ⟨v6, rfl, hk6, hown6⟩
                  obtain ⟨a6, c6, rfl, hs6, _⟩ := Sl.ofOwn hown6
                  have hkA := hkx.transNo hk6
                  have hown := own_keepB hor hkA (not_No _)
                  have hix2 := ix12 g k hlt4
                  have hcm2 := hown.cellAt k (by omega)
                  rw [atL_get _ k hlt4] at hcm2
                  clear hcall hfk
                  go_wp2_with fail
                  go_roundg (12 - (k + 1))
                  case measure => have := Hq4.out; omega
                  case rel => exact ⟨k + 1, by omega, rfl, by go_num, hkA⟩
              · obtain rfl : k = 12 := by omega
                go_wp2_with fail
                go_ret
                exact ⟨rfl, hkr.transNo hkx⟩
    have hlB := Sl.litK wr #[.int .u8 (97 + (k : Int))] 5 (0, 0) (ch7 k) (by simp [byteV, ch7]; omega) 1 rfl (by decide)
    have hkB : Keeps No wr (wr.alloc (.cells #[.int .u8 (97 + (k : Int))] 5)) := (Keeps.refl No _).alloc _
    obtain ⟨E, hw, hSE⟩ := hS.write hlt
    have w12 : ∀ x : Fin 12, (Lit.int .i64 (x.1 : Int)).wf = true := by decide
    have wk := w12 ⟨k, hlt⟩
    have hcall := pwrite_any bd bv F D (A7 k) [] k p7 _ _ _ (ch7 k) _ (hV.kept hkB) wk (by rw [A7_len]; omega) (by have := hS.wl; omega) hlB (by omega)
    rw [hw, hcp] at hcall
    unfold PWPost at hcall
    clear w12 wk
    have Hw := Lib.hid hw
    clear hw
    go_wp2_with fail
    refine hcall.mono ?_
    rintro e w5 ⟨rfl, F5, hV5, hs5⟩
    clear hcall hlB
    have hF5 : ∀ i, F5 i → w1.heap.size ≤ i := fun i hi => (hs5.fresh i hi).elim (hFw i) (fun h => by have := hkB.size; omega)
    have hk5 : Keeps No w w5 := (hkr.transNo hkB).trans hs5.keeps (fun i hi h => by have := hFw i h; have := hk1.size; omega)
    have hR5 : Raws w5 F5 _ k := (hR.keep hkB (fun _ h => h.elim) (fun i h => .inl h)).keep hs5.keeps (fun _ h => h) hs5.fresh
    have hz5 := hs5.keeps.size
    obtain ⟨Fd5, hd5, -, -⟩ := hV5.dev
    have hcall := d_read bd Fd5 E k w5 hd5
    rw [hSE.rd k (by omega)] at hcall
    clear hd5 hR hV hkr
    go_wp2_with fail
    refine hcall.mono ?_
    rintro e w6 ⟨v6, rfl, hown6, hk6⟩
    clear hcall
    rw [show ((hd7 (id k), (0 : Int)).1.length) = 16 from hd7_len k] at hown6
    obtain ⟨g6, c6, rfl⟩ := own_form hown6 (by omega)
    obtain ⟨a6, c6', he6, hs6, _⟩ := Sl.ofOwn hown6
    obtain ⟨rfl, rfl⟩ : some ⟨g6, 0, none⟩ = a6 ∧ c6 = c6' := by
      simp only [Value.slice.injEq, true_and] at he6
      exact ⟨he6.1, he6.2⟩
    have hg6 := hown6.lt g6 rfl
    have hV6 := hV5.kept hk6
    have hR6 : Raws w6 F5 _ k := hR5.keep hk6 (fun _ h => h.elim) (fun i h => .inl h)
    have hkC : Keeps No w6 (w6.alloc (.cells #[.slice (some ⟨g6, 0, none⟩) 16 c6] 35)) := (Keeps.refl No _).alloc _
    have hR7 : Raws _ F5 _ k := hR6.keep hkC (fun _ h => h.elim) (fun i h => .inl h)
    have hs7 := hs6.kept hkC
    have hV7 := hV6.kept hkC
    have hV7lt := hV7.lt
    have hl5 := hV5.lt
    obtain ⟨vs, r1, r2, r3⟩ := hR7
    have rb : u6.ownBlock ≠ some g6 := fun h => by obtain ⟨vs0, q1, _⟩ := hR5; have := (q1.lt _ h).2; omega
    have hk07 := (hk5.transNo hk6).transNo hkC
    have hSl := SlK.one w6 [.slice (some ⟨g6, 0, none⟩) 16 c6] 35 (k := 1) rfl
    have hz7 := hkC.size
    have hz6 := hk6.size
    clear he6 hown6 hV5 hV6 hR5 hR6 hs6 hk6 hk5
    go_wp2_with (at_builtin; refine app_ownK rfl (.tmp 43) (.tmp 45) 47 rfl 0 35 (.slice none 0 0) 1 24 Tryd.underlying47 bytes_infoS rfl (by decide) (by decide) _ k vs rfl r1 _ 1 1 [[.slice (some ⟨g6, 0, none⟩) 16 c6]] rfl hSl ?h1 ?hb (Nat.zero_le _) ?_)
    case h1 => intro u hu; simp at hu; subst hu; rfl
    case hb => omega
    intro v8 w8 hown8 hg8 hat8
    have hR8 : Raws w8 F5 v8 (k + 1) := Raws.push vs r1 r2 r3 (by simpa using hown8) hg8 (fun i hi => (hat8 i hi).elim .inl (fun h => .inr (by rw [h]; simp))) hV7lt hs7 (fun h => by have := hl5 _ h; omega) rb
    have hkG : Keeps (fun i => u6.ownBlock = some i) _ w8 := (Keeps.refl _ _).grown hg8 (fun i hi _ => hi)
    have hV8 := hV7.keep hkG (fun i hi h => r2 i h hi)
    have hk8 : Keeps No w w8 := hk07.trans hkG (fun i hi h => absurd (hRw i h) (by have := hk1.size; omega))
    have hRw8 : ∀ i, v8.ownBlock = some i → w1.heap.size ≤ i := fun i hi => (hat8 i hi).elim (hRw i) (fun h => by have := hkB.size; rw [h]; simp; omega)
    have hz8 := hkG.size
    have hzB := hkB.size
    clear hown8 hg8 hat8 r1 r2 r3 hs7 hV7
    go_wp2_with fail
    go_roundg (12 - (k + 1))
    case measure => have := Hq.out; omega
    case rel => exact ⟨k + 1, E, F5, by omega, rfl, by go_num, hSE, hV8, hR8, hRw8, hF5, hk8, by omega⟩
theorem pageSwaps_walk (ar : Option Addr) (n c : Nat) (L : List UInt8) (w : World) (hs : Sl w ar n c (L.map byteV)) (hn : n ≤ reachBytes) :
    Calls Tryd.prog 5 #[.slice ar n c] w fun e w' => e = .returned (.bool true) ∧ Keeps No w w' := pageSwaps_any ar n c L w hs (Nat.le_trans hn (by decide))
end Go.Proofs.YthimnkmoeonheaaDoor
