import Derived.Test.YthbipcjgpocpaaaGreatCol
/- Layer 14: the walks of rests, Codes and Put. -/
namespace Go.Proofs.YthbipcjgpocpaaaGreat
open Go.RowKit
set_option linter.unusedSimpArgs false
set_option linter.unusedVariables false
set_option maxRecDepth 100000

/-- A slice that bears a rest; none: nil. -/
def Rs (w : World) (v : Value) : Option (List UInt8) → Prop
  | none => v = .slice none 0 0
  | some b => ∃ ad c, v = .slice (some ad) b.length c ∧ Sl w (some ad) b.length c (b.map byteV)
theorem Rs.kept {w w' : World} {v : Value} {r : Option (List UInt8)} (h : Rs w v r) (hk : Keeps No w w') : Rs w' v r := by
  cases r with
  | none => exact h
  | some b => obtain ⟨ad, c, rfl, hs⟩ := h; exact ⟨ad, c, rfl, hs.kept hk⟩
theorem Rs.keep {w w' : World} {v : Value} {r : Option (List UInt8)} {S : Nat → Prop} (h : Rs w v r) (hk : Keeps S w w') (hS : ∀ ad n c, v = .slice (some ad) n c → ¬ S ad.block) : Rs w' v r := by
  cases r with
  | none => exact h
  | some b => obtain ⟨ad, c, rfl, hs⟩ := h; exact ⟨ad, c, rfl, hs.keep hk (fun _ => hS ad _ _ rfl)⟩
theorem Rs.ofSl {w : World} {a : Option Addr} {m c : Nat} {b : List UInt8} (hs : Sl w a m c (b.map byteV)) (h : 0 < b.length) : Rs w (.slice a m c) (some b) := by
  have hl : b.length = m := by simpa using hs.len
  have := hs.isSome (i := 0) (by omega)
  subst hl
  rw [this] at hs ⊢
  exact ⟨_, _, rfl, hs⟩
theorem putRuns_pos (L : List Int) (h : L.length ≤ 1000) : 0 < (putRuns L).length := by
  have h1 := runsOf_length L
  have := (nat7_len 9 (runsOf L).length (by omega)).2
  unfold putRuns; rw [List.length_append]; omega
theorem dputL_pos (L : List Tx) (h : L.length ≤ 1000) : 0 < (dputL L).length := by
  have h1 := wordsL_len L
  have := (nat7_len 9 (wordsL L).length (by omega)).2
  unfold dputL headW; rw [List.length_append, List.length_append]; omega

set_option maxHeartbeats 4000000 in
theorem crests_any (k : Int) (a : Option Addr) (n c : Nat) (F : List Va) (w : World) (hs : SlK w 4 a n c (F.map Va.cells)) (hF : Fu k F) :
    Calls Tryz.prog 23 #[.int .i64 k, .slice a n c] w fun e w' => ∃ v0 v1 v2 v3, e = .returned (.agg #[v0, v1, v2, v3]) ∧ Rs w' v0 (restC k F 0) ∧ Rs w' v1 (restC k F 1) ∧ Rs w' v2 (restC k F 2) ∧ Rs w' v3 (restC k F 3) ∧ Keeps No w w' := by
  have hlen : F.length = n := by simpa using hs.len
  have hn : n ≤ 256 := by rw [← hlen]; exact hF.len
  have hk1 := hF.k1
  have hnw := numsC_wf fun v hv => (hF.all v hv).2.2
  have hni := numsC_ints fun v hv => (hF.all v hv).2.2
  have hts : ∀ x ∈ txtsC F, x.length ≤ 100000 := fun x hx => by have := txtsC_small hF x hx; omega
  have hrp := putRuns_pos (numsC F) (by rw [numsC_len]; omega)
  have hdp := dputL_pos (txtsC F) (by rw [txtsC_len]; omega)
  have Hlen := Lib.hid hlen
  clear hlen
  go_enter Tryz.func23, Tryz.ntmps23
  go_wp2_with fail
  refine (cplain_any k a n c F _ (hs.kept ((Keeps.refl No w).alloc _)) hF).mono ?_
  rintro e w1 ⟨g1, c1, rfl, hown1, hk1'⟩
  have hkw1 : Keeps No w w1 := ((Keeps.refl No w).alloc _).transNo hk1'
  have hb4 := hk1'.blk (heap_alloc_new w (.cells #[.slice none 0 0, .slice none 0 0, .slice none 0 0, .slice none 0 0] 54)) (not_No _)
  have hb5 := heap_alloc_new w1 (.cells #[.slice (some ⟨g1, 0, none⟩) (plainC F).length c1, .slice none 0 0, .slice none 0 0, .slice none 0 0] 54)
  have hkA : Keeps No w1 (w1.alloc (.cells #[.slice (some ⟨g1, 0, none⟩) (plainC F).length c1, .slice none 0 0, .slice none 0 0, .slice none 0 0] 54)) := (Keeps.refl No w1).alloc _
  obtain ⟨a1, c1', he, hs1, _⟩ := Sl.ofOwn hown1
  obtain ⟨rfl, rfl⟩ : some ⟨g1, 0, none⟩ = a1 ∧ c1 = c1' := by
    simp only [Value.slice.injEq, true_and] at he
    exact he
  clear he hk1'
  rcases (show k = 3 ∨ k = 4 ∨ k = 1 ∨ k = 2 by omega) with rfl | rfl | rfl | rfl
  · go_wp2_with fail
    refine (ctexts_any a n c F _ (hs.kept (hkw1.transNo hkA)) (by omega)).mono ?_
    rintro e w2 ⟨a2, c2, rfl, hs2, hk2⟩
    go_wp2_with fail
    refine (dput_any a2 n c2 (txtsC F) _ hs2 (by omega) hts).mono ?_
    rintro e w3 ⟨v3, rfl, hown3, hk3, -⟩
    obtain ⟨a3, c3, rfl, hs3, _⟩ := Sl.ofOwn hown3
    have hk13 := (hkA.transNo hk2).transNo hk3
    have hb53 := (hk2.transNo hk3).blk hb5 (not_No _)
    have hb43 := hk13.blk hb4 (not_No _)
    have hf53 := frozen_of_row w3 w1.heap.size 3 _ _ hb53
    obtain ⟨q0, q1, q2, q3⟩ := row4 hb53
    have hS : (w3.setCell ⟨w1.heap.size, 3, none⟩ (.slice a3 (dputL (txtsC F)).length c3)).heap[w1.heap.size]? = some (.cells #[.slice (some ⟨g1, 0, none⟩) (plainC F).length c1, .slice none 0 0, .slice none 0 0, .slice a3 (dputL (txtsC F)).length c3] 54 (0, 0)) := heap_setCell_same w3 w1.heap.size 3 _ _ (.slice a3 (dputL (txtsC F)).length c3) hb53
    obtain ⟨p0, p1, p2, p3⟩ := row4 hS
    have hkS : Keeps (fun i => i = w1.heap.size) w3 (w3.setCell ⟨w1.heap.size, 3, none⟩ (.slice a3 (dputL (txtsC F)).length c3)) := Keeps.set w3 w1.heap.size 3 _
    have hwl : w.heap.size < w1.heap.size := by have := (Array.getElem?_eq_some_iff.1 hb4).1; exact this
    have hb4S := hkS.blk hb43 (show ¬ w.heap.size = w1.heap.size by omega)
    have hR1 : Rs w1 (.slice (some ⟨g1, 0, none⟩) (plainC F).length c1) (some (plainC F)) := ⟨_, _, rfl, hs1⟩
    have hR3 := Rs.ofSl hs3 hdp
    have hg1 := (hown1.lt g1 rfl).2
    have hg0 := (hown1.lt g1 rfl).1
    simp at hg0
    have ha3 : ∀ x, a3 = some x → w1.heap.size < x.block := by
      intro x hx
      subst hx
      have := (hown3.lt x.block (by rcases x with ⟨b, o, s⟩; rfl)).1
      have := hkA.size
      have := hk2.size
      simp at this
      omega
    go_wp2_with (refine wpList_storeRow rfl 54 (.tmp 4) (.tmp 31) rfl w.heap.size #[.slice (some ⟨g1, 0, none⟩) (plainC F).length c1, .slice none 0 0, .slice none 0 0, .slice a3 (dputL (txtsC F)).length c3] rfl rfl 54 _ hb4S (by kernel_rfl) rfl (by kernel_rfl) ?_)
    intro w5 hb45 hz5 hk5
    go_wp2_with fail
    (try simp only [Exit.inBlock, Exit.then]); refine bodyPost_ret (results_cell_row rfl _ _ _ _ _ _ _ rfl hb45 Tryz.underlying54 rfl (by kernel_rfl)) rfl ?_
    refine ⟨_, _, _, _, rfl, ?_, rfl, rfl, ?_, ?_⟩
    · exact ((hR1.kept hk13).keep hkS (fun ad n c e => by injection e with e1; injection e1 with e1; subst e1; show ¬ g1 = w1.heap.size; omega)).keep hk5 (fun ad n c e => by injection e with e1; injection e1 with e1; subst e1; show ¬ g1 = w.heap.size; omega)
    · exact (hR3.keep hkS (fun ad n c e => by injection e with e1; subst e1; have := ha3 _ rfl; show ¬ ad.block = w1.heap.size; omega)).keep hk5 (fun ad n c e => by injection e with e1; subst e1; have := ha3 _ rfl; show ¬ ad.block = w.heap.size; omega)
    · exact ((hkw1.transNo hk13).trans hkS (fun i hi e => by omega)).trans hk5 (fun i hi e => by omega)
  · go_wp2_with fail
    refine (cnumbers_any 4 a n c F _ (hs.kept (hkw1.transNo hkA)) hF).mono ?_
    rintro e w2 ⟨a2, c2, rfl, hs2, hk2⟩
    go_wp2_with fail
    refine (rput_any a2 n c2 (numsC F) _ hs2 hnw (by omega)).mono ?_
    rintro e w3 ⟨a3, m3, c3, rfl, hs3, ha3', hk3⟩
    have hk13 := (hkA.transNo hk2).transNo hk3
    have hb53 := (hk2.transNo hk3).blk hb5 (not_No _)
    have hb43 := hk13.blk hb4 (not_No _)
    have hf53 := frozen_of_row w3 w1.heap.size 1 _ _ hb53
    obtain ⟨q0, q1, q2, q3⟩ := row4 hb53
    have hS : (w3.setCell ⟨w1.heap.size, 1, none⟩ (.slice a3 m3 c3)).heap[w1.heap.size]? = some (.cells #[.slice (some ⟨g1, 0, none⟩) (plainC F).length c1, .slice a3 m3 c3, .slice none 0 0, .slice none 0 0] 54 (0, 0)) := heap_setCell_same w3 w1.heap.size 1 _ _ (.slice a3 m3 c3) hb53
    obtain ⟨p0, p1, p2, p3⟩ := row4 hS
    have hkS : Keeps (fun i => i = w1.heap.size) w3 (w3.setCell ⟨w1.heap.size, 1, none⟩ (.slice a3 m3 c3)) := Keeps.set w3 w1.heap.size 1 _
    have hwl : w.heap.size < w1.heap.size := by have := (Array.getElem?_eq_some_iff.1 hb4).1; exact this
    have hb4S := hkS.blk hb43 (show ¬ w.heap.size = w1.heap.size by omega)
    have hR1 : Rs w1 (.slice (some ⟨g1, 0, none⟩) (plainC F).length c1) (some (plainC F)) := ⟨_, _, rfl, hs1⟩
    have hR3 := Rs.ofSl hs3 hrp
    have hg1 := (hown1.lt g1 rfl).2
    have hg0 := (hown1.lt g1 rfl).1
    simp at hg0
    have ha3 : ∀ x, a3 = some x → w1.heap.size < x.block := by
      intro x hx
      have := ha3' x hx
      have := hk2.size
      simp at this
      omega
    go_wp2_with (refine wpList_storeRow rfl 54 (.tmp 4) (.tmp 31) rfl w.heap.size #[.slice (some ⟨g1, 0, none⟩) (plainC F).length c1, .slice a3 m3 c3, .slice none 0 0, .slice none 0 0] rfl rfl 54 _ hb4S (by kernel_rfl) rfl (by kernel_rfl) ?_)
    intro w5 hb45 hz5 hk5
    go_wp2_with fail
    (try simp only [Exit.inBlock, Exit.then]); refine bodyPost_ret (results_cell_row rfl _ _ _ _ _ _ _ rfl hb45 Tryz.underlying54 rfl (by kernel_rfl)) rfl ?_
    refine ⟨_, _, _, _, rfl, ?_, ?_, rfl, rfl, ?_⟩
    · exact ((hR1.kept hk13).keep hkS (fun ad n c e => by injection e with e1; injection e1 with e1; subst e1; show ¬ g1 = w1.heap.size; omega)).keep hk5 (fun ad n c e => by injection e with e1; injection e1 with e1; subst e1; show ¬ g1 = w.heap.size; omega)
    · exact (hR3.keep hkS (fun ad n c e => by injection e with e1; have := ha3 _ e1; show ¬ ad.block = w1.heap.size; omega)).keep hk5 (fun ad n c e => by injection e with e1; have := ha3 _ e1; show ¬ ad.block = w.heap.size; omega)
    · exact ((hkw1.transNo hk13).trans hkS (fun i hi e => by omega)).trans hk5 (fun i hi e => by omega)
  all_goals
    go_wp2_with fail
    refine (cnumbers_any _ a n c F _ (hs.kept (hkw1.transNo hkA)) hF).mono ?_
    rintro e w2 ⟨a2, c2, rfl, hs2, hk2⟩
    go_wp2_with fail
    refine (rput_any a2 n c2 (numsC F) _ hs2 hnw (by omega)).mono ?_
    rintro e w3 ⟨a3, m3, c3, rfl, hs3, ha3', hk3⟩
    have hk13 := (hkA.transNo hk2).transNo hk3
    have hb53 := (hk2.transNo hk3).blk hb5 (not_No _)
    have hb43 := hk13.blk hb4 (not_No _)
    have hf53 := frozen_of_row w3 w1.heap.size 1 _ _ hb53
    obtain ⟨q0, q1, q2, q3⟩ := row4 hb53
    have hS : (w3.setCell ⟨w1.heap.size, 1, none⟩ (.slice a3 m3 c3)).heap[w1.heap.size]? = some (.cells #[.slice (some ⟨g1, 0, none⟩) (plainC F).length c1, .slice a3 m3 c3, .slice none 0 0, .slice none 0 0] 54 (0, 0)) := heap_setCell_same w3 w1.heap.size 1 _ _ (.slice a3 m3 c3) hb53
    have hkS : Keeps (fun i => i = w1.heap.size) w3 (w3.setCell ⟨w1.heap.size, 1, none⟩ (.slice a3 m3 c3)) := Keeps.set w3 w1.heap.size 1 _
    have hwl : w.heap.size < w1.heap.size := by have := (Array.getElem?_eq_some_iff.1 hb4).1; exact this
    have hb4S := hkS.blk hb43 (show ¬ w.heap.size = w1.heap.size by omega)
    have hR1 : Rs w1 (.slice (some ⟨g1, 0, none⟩) (plainC F).length c1) (some (plainC F)) := ⟨_, _, rfl, hs1⟩
    have hR3 := Rs.ofSl hs3 hrp
    have hg1 := (hown1.lt g1 rfl).2
    have hg0 := (hown1.lt g1 rfl).1
    simp at hg0
    have ha3 : ∀ x, a3 = some x → w1.heap.size < x.block := by
      intro x hx
      have := ha3' x hx
      have := hk2.size
      simp at this
      omega
    have hR1S := ((hR1.kept hk13).keep hkS (fun ad n c e => by injection e with e1; injection e1 with e1; subst e1; show ¬ g1 = w1.heap.size; omega))
    have hR3S := (hR3.keep hkS (fun ad n c e => by injection e with e1; have := ha3 _ e1; show ¬ ad.block = w1.heap.size; omega))
    have hkwS : Keeps No w (w3.setCell ⟨w1.heap.size, 1, none⟩ (.slice a3 m3 c3)) := (hkw1.transNo hk13).trans hkS (fun i hi e => by omega)
    have hz13 := hk13.size
    have hzS := hkS.size
    clear hkS hR1 hR3
    have hsw := hs.kept hkwS
    go_upto_region 5 with fail
    generalize w3.setCell ⟨w1.heap.size, 1, none⟩ (.slice a3 m3 c3) = W at hS hb4S hR1S hR3S hkwS hzS hsw ⊢
    clear hb53 hb43 hf53 hk13 hkA hb5 hb4 hkw1 q0 q1 q2 q3
    have hkE : Keeps No W (W.alloc (.cells #[] 5)) := (Keeps.refl No W).alloc _
    have hownE : (W.alloc (.cells #[] 5)).ownsRow W.heap.size 5 1 (.slice (some ⟨W.heap.size, 0, none⟩) 0 0) 0 [] := owns_lit0 W _ _ (Nat.le_refl _)
    go_wp2_with fail
    refine (cnumbers_any _ a n c F _ (hsw.kept hkE) hF).mono ?_
    rintro e w6 ⟨a6, c6, rfl, hs6, hk6⟩
    go_wp2_with fail
    refine (bput_any a6 n c6 (numsC F) _ hs6 hni (by omega)).mono ?_
    rintro e w7 ⟨a7, m7, c7, rfl, hs7, hm7, _, hk7⟩
    have hl7 : (bitsPut (numsC F)).length = m7 := by simpa using hs7.len
    have Hl7 := Lib.hid hl7
    clear hl7
    have hown7 := (hk6.transNo hk7).own hownE (fun _ _ => not_No _)
    have hkE7 := (hkE.transNo hk6).transNo hk7
    have hb57 := hkE7.blk hS (not_No _)
    have hb47 := hkE7.blk hb4S (not_No _)
    go_wp2_with (at_builtin; go_loud (refine app_ownS rfl _ _ 22 rfl W.heap.size 5 (.int .u8 0) 1 Tryz.underlying22 byte_infoX rfl (by decide) _ 0 [] rfl hown7 ?hv _ m7 c7 ((bitsPut (numsC F)).map byteV) rfl hs7 ?h1 ?hb ?hB ?_))
    case hv => intro h; have h2 : Value.slice (some ⟨W.heap.size, 0, none⟩) 0 0 = .slice none 0 0 := h; simp at h2
    case h1 => exact byteV_one _
    case hb => omega
    case hB => have := hkE7.size; omega
    intro g8 c8 w8 hown8 hg8 hg80 hg81
    have hne8 : ¬ w1.heap.size = W.heap.size := by have := (Array.getElem?_eq_some_iff.1 hS).1; omega
    have hne9 : ¬ w.heap.size = W.heap.size := by have := (Array.getElem?_eq_some_iff.1 hb4S).1; omega
    have hkW8 : Keeps No W w8 := hkE7.grown hg8 (fun i hi hlt => by have e1 : some W.heap.size = some i := hi; injection e1 with e1; omega)
    have hb58 := hkW8.blk hS (not_No _)
    have hb48 := hkW8.blk hb4S (not_No _)
    have hf58 := frozen_of_row w8 w1.heap.size 2 _ _ hb58
    obtain ⟨r0, r1, r2, r3⟩ := row4 hb58
    have hS8 : (w8.setCell ⟨w1.heap.size, 2, none⟩ (.slice (some ⟨g8, 0, none⟩) m7 c8)).heap[w1.heap.size]? = some (.cells #[.slice (some ⟨g1, 0, none⟩) (plainC F).length c1, .slice a3 m3 c3, .slice (some ⟨g8, 0, none⟩) m7 c8, .slice none 0 0] 54 (0, 0)) := heap_setCell_same w8 w1.heap.size 2 _ _ _ hb58
    obtain ⟨p0, p1, p2, p3⟩ := row4 hS8
    have hkS8 : Keeps (fun i => i = w1.heap.size) w8 (w8.setCell ⟨w1.heap.size, 2, none⟩ (.slice (some ⟨g8, 0, none⟩) m7 c8)) := Keeps.set w8 w1.heap.size 2 _
    have hb4S8 := hkS8.blk hb48 (show ¬ w.heap.size = w1.heap.size by omega)
    have hR2 : Rs w8 (.slice (some ⟨g8, 0, none⟩) m7 c8) (some (bitsPut (numsC F))) := by
      obtain ⟨a9, c9, he9, hs9, _⟩ := Sl.ofOwn hown8
      obtain ⟨rfl, rfl⟩ : some ⟨g8, 0, none⟩ = a9 ∧ c8 = c9 := by
        simp only [Value.slice.injEq, true_and] at he9
        exact he9
      have hs10 : Sl w8 (some ⟨g8, 0, none⟩) m7 c8 ((bitsPut (numsC F)).map byteV) := by simpa using hs9
      have := Hl7.out
      subst this
      exact ⟨_, _, rfl, hs10⟩
    go_wp2_with (refine wpList_storeRow rfl 54 (.tmp 4) (.tmp 31) rfl w.heap.size #[.slice (some ⟨g1, 0, none⟩) (plainC F).length c1, .slice a3 m3 c3, .slice (some ⟨g8, 0, none⟩) m7 c8, .slice none 0 0] rfl rfl 54 _ hb4S8 (by kernel_rfl) rfl (by kernel_rfl) ?_)
    intro w9 hb49 hz9 hk9
    have hzW : W.heap.size ≤ g8 := hg80
    have hWl : w1.heap.size < W.heap.size := (Array.getElem?_eq_some_iff.1 hS).1
    go_wp2_with fail
    (try simp only [Exit.inBlock, Exit.then]); refine bodyPost_ret (results_cell_row rfl _ _ _ _ _ _ _ rfl hb49 Tryz.underlying54 rfl (by kernel_rfl)) rfl ?_
    refine ⟨_, _, _, _, rfl, ?_, ?_, ?_, rfl, ?_⟩
    · exact ((hR1S.kept hkW8).keep hkS8 (fun ad n c e => by injection e with e1; injection e1 with e1; subst e1; show ¬ g1 = w1.heap.size; omega)).keep hk9 (fun ad n c e => by injection e with e1; injection e1 with e1; subst e1; show ¬ g1 = w.heap.size; omega)
    · exact ((hR3S.kept hkW8).keep hkS8 (fun ad n c e => by injection e with e1; have := ha3 _ e1; show ¬ ad.block = w1.heap.size; omega)).keep hk9 (fun ad n c e => by injection e with e1; have := ha3 _ e1; show ¬ ad.block = w.heap.size; omega)
    · exact (hR2.keep hkS8 (fun ad n c e => by injection e with e1; injection e1 with e1; subst e1; show ¬ g8 = w1.heap.size; omega)).keep hk9 (fun ad n c e => by injection e with e1; injection e1 with e1; subst e1; show ¬ g8 = w.heap.size; omega)
    · exact ((hkwS.transNo hkW8).trans hkS8 (fun i hi e => by omega)).trans hk9 (fun i hi e => by omega)
end Go.Proofs.YthbipcjgpocpaaaGreat
/- slices.Concat of any number of byte slices; layer 14: the walks of Codes and Put. -/
namespace Go.Proofs.YthbipcjgpocpaaaGreat
open Go.RowKit
set_option linter.unusedSimpArgs false
set_option linter.unusedVariables false
set_option maxRecDepth 100000

theorem flat_take_succ (S : List (List UInt8)) {i : Nat} (h : i < S.length) : (S.take (i + 1)).flatten = (S.take i).flatten ++ S.getD i [] := by
  rw [List.take_succ_eq_append_getElem h, List.flatten_append]; simp [h]
theorem flat_take_le (S : List (List UInt8)) (i : Nat) : (S.take i).flatten.length ≤ S.flatten.length := by
  conv => rhs; rw [← List.take_append_drop i S, List.flatten_append, List.length_append]
  omega

set_option maxHeartbeats 2000000 in
theorem concatN_any (va : Option Addr) (vc k : Nat) (V : List Value) (S : List (List UInt8)) (w : World) (hv : Sl w va k vc V) (hk : S.length = k)
    (hS : ∀ i, i < k → ∃ a c, V.getD i undef = .slice a (S.getD i []).length c ∧ Sl w a (S.getD i []).length c ((S.getD i []).map byteV)) (hb : S.flatten.length ≤ 1000000000) (hkb : k ≤ 1000000) :
    Calls Tryz.prog 25 #[.slice va k vc] w fun e w' => ∃ v, e = .returned v ∧ w'.ownsRow w.heap.size 5 1 v S.flatten.length (S.flatten.map byteV) ∧ Keeps No w w' := by
  generalize hB : w.heap.size = B
  have hBl : ∀ {x : Option Addr} {k c : Nat} {xs : List Value}, Sl w x k c xs → 0 < k → (x.getD default).block < B := fun h hk => by rw [← hB]; exact h.lt hk
  have HB := Lib.hid hB
  have Hk := Lib.hid hk
  clear hB hk
  go_enter Tryz.func25, Tryz.ntmps25
  go_wp2_with fail
  go_loopg [3, 11] k (fun q z i wx => ∃ (m Z : Nat), m ≤ k ∧ q = k - m ∧ i = .int .i64 (m : Int) ∧ Hid (Z = (S.take m).flatten.length) ∧ z = .int .i64 (Z : Int) ∧ wx = w)
  case atStart => exact ⟨0, 0, Nat.zero_le _, rfl, rfl, Lib.hid rfl, rfl, rfl⟩
  case round =>
    obtain ⟨m, Z, hm, hq, rfl, HZ, rfl, rfl⟩ := hrel
    have Hq := Lib.hid hq
    clear hq
    have hZ : Z ≤ 1000000000 := by rw [HZ.out]; exact Nat.le_trans (flat_take_le S m) hb
    by_cases hlt : m < k
    · have hix := hv.ix (P := Tryz.prog) Tryz.underlying85 (by kernel_rfl) hlt .i64
      have hcm := hv.at_ hlt
      obtain ⟨a, c, hV, hs⟩ := hS m hlt
      rw [hV] at hcm
      have hst := flat_take_succ S (i := m) (by rw [Hk.out]; exact hlt)
      have hle := flat_take_le S (m + 1)
      have hzn : (S.take (m + 1)).flatten.length = Z + (S.getD m []).length := by rw [hst, List.length_append, HZ.out]
      generalize hD : S.getD m [] = D at hcm hzn
      generalize hl : D.length = l at hcm hzn
      have Hzn := Lib.hid hzn
      have hl2 : Z + l ≤ 1000000000 := by omega
      clear hV hst hle hzn hD hl hs
      go_wp2_with fail
      go_roundg (k - (m + 1))
      case measure => have := Hq.out; omega
      case rel => exact ⟨m + 1, Z + l, by omega, rfl, by go_num, Lib.hid Hzn.out.symm, by go_num, rfl⟩
    · obtain rfl : m = k := by omega
      go_wp2_with fail
      refine (grow_nil Z _ (by omega)).mono ?_
      rintro e w1 ⟨v1, rfl, hown1, hk1⟩
      have hz1 := hk1.size
      rw [HB.out] at hown1 hz1
      go_wp2_with fail
      go_loopg [6, 27] m (fun q u i wx => ∃ (t Y : Nat) (X : List UInt8), t ≤ m ∧ q = m - t ∧ i = .int .i64 (t : Int) ∧ Hid (X = (S.take t).flatten) ∧ Hid (Y = (S.take t).flatten.length) ∧ wx.ownsRow B 5 1 u Y (X.map byteV) ∧ Keeps (fun k => B ≤ k) w1 wx)
      case atStart => exact ⟨0, 0, [], Nat.zero_le _, rfl, rfl, Lib.hid rfl, Lib.hid rfl, hown1, Keeps.refl _ _⟩
      case round =>
        obtain ⟨t, Y, X, ht, hq2, rfl, HX, HY, hown, hkx⟩ := hrel
        have Hq2 := Lib.hid hq2
        clear hq2
        have hY : Y ≤ 1000000000 := by rw [HY.out]; exact Nat.le_trans (flat_take_le S t) hb
        have hzx := hkx.size
        by_cases hlt2 : t < m
        · have hix := hv.ix (P := Tryz.prog) Tryz.underlying85 (by kernel_rfl) hlt2 .i64
          have hcm := hv.at_ hlt2
          obtain ⟨a, c, hV, hs⟩ := hS t hlt2
          rw [hV] at hcm
          have hcx := hkx.cell (hk1.cell hcm (not_No _)) (by have := hBl hv (by omega); rw [Sl.block_add]; omega)
          have hsx := (hs.kept hk1).keep hkx (fun h => by have := hBl hs h; omega)
          have hst := flat_take_succ S (i := t) (by rw [Hk.out]; exact hlt2)
          have hle := flat_take_le S (t + 1)
          have hzn : (S.take (t + 1)).flatten.length = Y + (S.getD t []).length := by rw [hst, List.length_append, HY.out]
          generalize hD : S.getD t [] = D at hcx hzn hsx hst
          generalize hl : D.length = l at hcx hzn hsx
          have Hzn := Lib.hid hzn
          have Hst := Lib.hid hst
          have hl2 : Y + l ≤ 1000000000 := by omega
          clear hV hst hle hzn hD hl hs hcm
          go_wp2_with (at_builtin; go_loud (refine app_own rfl _ _ 22 rfl B 5 (.int .u8 0) 1 Tryz.underlying22 ones_info rfl (by decide) _ Y (X.map byteV) rfl hown _ l _ (D.map byteV) rfl hsx ?h1 ?hb ?hB ?_))
          case h1 => exact byteV_one D
          case hb => omega
          case hB => omega
          intro v' w6 hown6 hg6
          go_wp2_with fail
          go_roundg (m - (t + 1))
          case measure => have := Hq2.out; omega
          case rel => exact ⟨t + 1, Y + l, X ++ D, by omega, rfl, by go_num, Lib.hid (by rw [Hst.out, HX.out]), Lib.hid Hzn.out.symm, by rw [List.map_append]; exact hown6, hkx.grown hg6 (fun k hk _ => (hown.lt k hk).1)⟩
        · obtain rfl : t = m := by omega
          go_wp2_with fail
          go_ret
          rw [HX.out, List.take_of_length_le (by rw [Hk.out]; exact Nat.le_refl _)] at hown
          have e : Y = S.flatten.length := by rw [HY.out, List.take_of_length_le (by rw [Hk.out]; exact Nat.le_refl _)]
          rw [e] at hown
          exact ⟨_, rfl, hown, hk1.trans hkx (fun i hi h => by have := HB.out; omega)⟩

theorem nil_test (w : World) (v : Value) (r : Option (List UInt8)) (h : Rs w v r) : ∃ a n c, v = .slice a n c ∧ ((r = none ∧ a = none ∧ n = 0 ∧ c = 0) ∨ (∃ b ad, r = some b ∧ a = some ad ∧ n = b.length)) := by
  cases r with
  | none => exact ⟨none, 0, 0, h, .inl ⟨rfl, rfl, rfl, rfl⟩⟩
  | some b => obtain ⟨ad, c, rfl, hs⟩ := h; exact ⟨_, _, _, rfl, .inr ⟨b, ad, rfl, rfl, rfl⟩⟩
def sizeC (r : Option (List UInt8)) : Int := match r with | none => -1 | some b => (b.length : Int)
theorem sizesC_eq (k : Int) (L : List Va) : sizesC k L = (List.range 4).map fun c => sizeC (restC k L c) := rfl
theorem Rs.small {w : World} {v : Value} {r : Option (List UInt8)} (h : Rs w v r) : sizeC r ≤ 9223372036854775807 := by
  cases r with
  | none => decide
  | some b =>
    obtain ⟨ad, c, rfl, hs⟩ := h
    have h1 := hs.le
    have h2 := hs.max
    unfold maxLen at h2
    show (b.length : Int) ≤ _
    omega
/-- One of four slices by its place. -/
def four (v0 v1 v2 v3 : Value) (m : Nat) : Value := match m with | 0 => v0 | 1 => v1 | 2 => v2 | _ => v3
theorem run_index4L (v0 v1 v2 v3 : Value) (w : World) :
    (Instr.index 54 (.agg #[v0, v1, v2, v3]) (.int .i64 0)).run Tryz.prog w = .ok v0 w ∧
    (Instr.index 54 (.agg #[v0, v1, v2, v3]) (.int .i64 1)).run Tryz.prog w = .ok v1 w ∧
    (Instr.index 54 (.agg #[v0, v1, v2, v3]) (.int .i64 2)).run Tryz.prog w = .ok v2 w ∧
    (Instr.index 54 (.agg #[v0, v1, v2, v3]) (.int .i64 3)).run Tryz.prog w = .ok v3 w :=
  ⟨by kernel_rfl, by kernel_rfl, by kernel_rfl, by kernel_rfl⟩
theorem run_index4 (v0 v1 v2 v3 : Value) (w : World) : ∀ (m : Nat), m < 4 → (Instr.index 54 (.agg #[v0, v1, v2, v3]) (.int .i64 (m : Int))).run Tryz.prog w = .ok (four v0 v1 v2 v3 m) w
  | 0, _ => (run_index4L v0 v1 v2 v3 w).1
  | 1, _ => (run_index4L v0 v1 v2 v3 w).2.1
  | 2, _ => (run_index4L v0 v1 v2 v3 w).2.2.1
  | 3, _ => (run_index4L v0 v1 v2 v3 w).2.2.2
theorem four_rs {w : World} {v0 v1 v2 v3 : Value} {R : Nat → Option (List UInt8)} (h0 : Rs w v0 (R 0)) (h1 : Rs w v1 (R 1)) (h2 : Rs w v2 (R 2)) (h3 : Rs w v3 (R 3)) : ∀ m, m < 4 → Rs w (four v0 v1 v2 v3 m) (R m)
  | 0, _ => h0
  | 1, _ => h1
  | 2, _ => h2
  | 3, _ => h3

end Go.Proofs.YthbipcjgpocpaaaGreat
/- Layer 14: the walk of Put. -/
namespace Go.Proofs.YthbipcjgpocpaaaGreat
open Go.RowKit
set_option linter.unusedSimpArgs false
set_option linter.unusedVariables false
set_option maxRecDepth 100000

def codeTo (R : Nat → Option (List UInt8)) (m : Nat) : Nat := (List.range m).foldl (stepC R) 0
theorem codeTo_succ (R : Nat → Option (List UInt8)) (m : Nat) : codeTo R (m + 1) = stepC R (codeTo R m) m := by
  unfold codeTo; rw [List.range_succ, List.foldl_append]; rfl
theorem codeTo_lt (R : Nat → Option (List UInt8)) : ∀ m, m ≤ 4 → codeTo R m < 4
  | 0, _ => show (0 : Nat) < 4 by decide
  | m + 1, h => by rw [codeTo_succ]; exact stepC_lt (codeTo_lt R m (by omega)) (by omega)
theorem codeTo_ok {R : Nat → Option (List UInt8)} {r0 : List UInt8} (h : R 0 = some r0) : ∀ m, ∃ r, R (codeTo R m) = some r ∧ r.length ≤ r0.length
  | 0 => ⟨r0, h, Nat.le_refl _⟩
  | m + 1 => by rw [codeTo_succ]; exact stepC_ok (codeTo_ok h m)
theorem codeTo_four (R : Nat → Option (List UInt8)) : codeTo R 4 = codeC R := by
  have h0 : stepC R 0 0 = 0 := by unfold stepC; cases R 0 <;> simp
  unfold codeTo codeC
  rw [show List.range 4 = [0, 1, 2, 3] from rfl]
  simp only [List.foldl_cons, List.foldl_nil, h0]

theorem run_indexAddr4L (g : Nat) (w : World) :
    (Instr.indexAt 54 (.pointer (some ⟨g, 0, none⟩)) (.int .i64 0)).run Tryz.prog w = .ok (.pointer (some ⟨g, 0, none⟩)) w ∧
    (Instr.indexAt 54 (.pointer (some ⟨g, 0, none⟩)) (.int .i64 1)).run Tryz.prog w = .ok (.pointer (some ⟨g, 1, none⟩)) w ∧
    (Instr.indexAt 54 (.pointer (some ⟨g, 0, none⟩)) (.int .i64 2)).run Tryz.prog w = .ok (.pointer (some ⟨g, 2, none⟩)) w ∧
    (Instr.indexAt 54 (.pointer (some ⟨g, 0, none⟩)) (.int .i64 3)).run Tryz.prog w = .ok (.pointer (some ⟨g, 3, none⟩)) w :=
  ⟨by kernel_rfl, by kernel_rfl, by kernel_rfl, by kernel_rfl⟩
theorem run_indexAddr4 (g : Nat) (w : World) : ∀ (m : Nat), m < 4 → (Instr.indexAt 54 (.pointer (some ⟨g, 0, none⟩)) (.int .i64 (m : Int))).run Tryz.prog w = .ok (.pointer (some ⟨g, m, none⟩)) w
  | 0, _ => (run_indexAddr4L g w).1
  | 1, _ => (run_indexAddr4L g w).2.1
  | 2, _ => (run_indexAddr4L g w).2.2.1
  | 3, _ => (run_indexAddr4L g w).2.2.2
theorem four_cell {w : World} {g : Nat} {t : TypeId} {v0 v1 v2 v3 : Value} (h : w.heap[g]? = some (.cells #[v0, v1, v2, v3] t (0, 0))) : ∀ m, m < 4 → w.cell? ⟨g, m, none⟩ = some (four v0 v1 v2 v3 m)
  | 0, _ => (row4 h).1
  | 1, _ => (row4 h).2.1
  | 2, _ => (row4 h).2.2.1
  | 3, _ => (row4 h).2.2.2

/-- What Put answers. -/
def ColPutPost (k : Int) (L : List Va) (w : World) (e : Ending) (w' : World) : Prop :=
  (rightC k L = false ∧ e = .returned (.tuple #[.slice none 0 0, .int .i64 2]) ∧ Keeps No w w') ∨
  (rightC k L = true ∧ ∃ v, e = .returned (.tuple #[v, .int .i64 0]) ∧ w'.ownsRow w.heap.size 5 1 v (colPut k L).length ((colPut k L).map byteV) ∧ Keeps No w w')
theorem bool_info14 : (Tryz.prog.info? 4).map (fun i => (i.zero, i.size, i.bytes)) = some (some (.bool false), 1, 1) := by kernel_rfl

set_option maxHeartbeats 8000000 in
theorem colput_any (k : Int) (a : Option Addr) (n c : Nat) (L : List Va) (w : World) (hs : SlK w 4 a n c (L.map Va.cells)) (hL : ∀ v ∈ L, v.wf) :
    Calls Tryz.prog 8 #[.int .i64 k, .slice a n c] w (ColPutPost k L w) := by
  have hlen : L.length = n := by simpa using hs.len
  have hright := fun wx hs => cright_any k a n c L wx hs hL
  obtain ⟨R, hR⟩ : ∃ R, R = rightC k L := ⟨_, rfl⟩
  rw [← hR] at hright
  have HR := Lib.hid hR
  have Hlen := Lib.hid hlen
  clear hR hlen
  go_enter Tryz.func8, Tryz.ntmps8
  go_wp2_with fail
  refine (hright _ hs).mono ?_
  rintro e w1 ⟨rfl, hk1⟩
  clear hright
  cases R
  · go_wp2_with fail
    go_ret2
    exact .inl ⟨HR.out.symm, rfl, hk1⟩
  have hF := fu_of HR.out.symm hL
  have hn : n ≤ 256 := by rw [← Hlen.out]; exact (rightC_iff.1 HR.out.symm).1.2.2
  have hk14 := hF.k1
  go_wp2_with fail
  refine (cfull_any a n c L _ (hs.kept hk1) (by omega)).mono ?_
  rintro e w2 ⟨v2, rfl, hown2, hk2⟩
  obtain ⟨a2, c2, rfl, hs2, _⟩ := SlK.ofOwn (k := 4) (by decide) (vals_wide (fullC L)) hown2
  go_wp2_with fail
  refine (crests_any k a2 _ c2 (fullC L) _ hs2 hF).mono ?_
  rintro e w3 ⟨u0, u1, u2, u3, rfl, hr0, hr1, hr2, hr3, hk3⟩
  obtain ⟨e0, l0, q0, rfl, -⟩ := nil_test _ _ _ hr0
  obtain ⟨e1, l1, q1, rfl, -⟩ := nil_test _ _ _ hr1
  obtain ⟨e2, l2, q2, rfl, -⟩ := nil_test _ _ _ hr2
  obtain ⟨e3, l3, q3, rfl, -⟩ := nil_test _ _ _ hr3
  have hk03 := (hk1.transNo hk2).transNo hk3
  have hrs := four_rs hr0 hr1 hr2 hr3
  have hbest := bestC_ok k L
  have hbl := bestC_len HR.out.symm hL
  have hzero : restC k (fullC L) 0 = some (plainC (fullC L)) := rfl
  obtain ⟨RR, hRR⟩ : ∃ RR, RR = restC k (fullC L) := ⟨_, rfl⟩
  rw [← hRR] at hrs hbest hzero
  clear hF hown2 hs2 hk1 hk2 hk3 hr0 hr1 hr2 hr3
  have Hrs := Lib.hid hrs
  have HRR := Lib.hid hRR
  have Hzero := Lib.hid hzero
  have Hbest := Lib.hid hbest
  clear hrs hRR hzero hbest
  have hb7 := heap_alloc_new w3 (.cells #[(.slice e0 l0 q0), (.slice e1 l1 q1), (.slice e2 l2 q2), (.slice e3 l3 q3)] 54)
  have hkA : Keeps No w3 (w3.alloc (.cells #[(.slice e0 l0 q0), (.slice e1 l1 q1), (.slice e2 l2 q2), (.slice e3 l3 q3)] 54)) := (Keeps.refl No w3).alloc _
  obtain ⟨p0, p1, p2, p3⟩ := row4 hb7
  go_wp2_with fail
  generalize hB7 : w3.heap.size = B7 at hb7 p0 p1 p2 p3 ⊢
  generalize hW4 : w3.alloc (.cells #[(.slice e0 l0 q0), (.slice e1 l1 q1), (.slice e2 l2 q2), (.slice e3 l3 q3)] 54) = W4 at hb7 hkA p0 p1 p2 p3 ⊢
  have hrsW : ∀ m, m < 4 → Rs W4 (four (.slice e0 l0 q0) (.slice e1 l1 q1) (.slice e2 l2 q2) (.slice e3 l3 q3) m) (RR m) := fun m hm => (Hrs.out m hm).kept hkA
  have hk04 := hk03.transNo hkA
  have HrsW := Lib.hid hrsW
  have hcells := four_cell hb7
  have Hcells := Lib.hid hcells
  clear hrsW hW4 hcells p0 p1 p2 p3 Hrs hkA
  go_loopg [23, 6] 4 (fun q i cv wr => ∃ (m : Nat), m ≤ 4 ∧ q = 4 - m ∧ i = .int .i64 (m : Int) ∧ cv = .int .i64 (codeTo RR m : Nat) ∧ wr = W4)
  case atStart => exact ⟨0, Nat.zero_le _, rfl, rfl, rfl, rfl⟩
  case round =>
    obtain ⟨m, hm, hq, rfl, rfl, rfl⟩ := hrel
    have Hq := Lib.hid hq
    clear hq
    obtain ⟨rc, hrc, hrcl⟩ := codeTo_ok Hzero.out m
    have hclt := codeTo_lt RR m hm
    have hsucc := codeTo_succ RR m
    have hfour := codeTo_four RR
    generalize hC : codeTo RR m = C at hrc hclt hsucc ⊢
    have HC := Lib.hid hC
    have Hsucc := Lib.hid hsucc
    have Hfour := Lib.hid hfour
    clear hC hsucc hfour
    have hcC := Hcells.out C hclt
    have hixC := fun wx => run_indexAddr4 B7 wx C hclt
    have hrC := HrsW.out C hclt
    rw [hrc] at hrC
    obtain ⟨adC, cC, hvC, hsC⟩ := hrC
    rw [hvC] at hcC
    by_cases hlt : m < 4
    · have hix := fun wx => run_index4 (.slice e0 l0 q0) (.slice e1 l1 q1) (.slice e2 l2 q2) (.slice e3 l3 q3) wx m hlt
      have hrm := HrsW.out m hlt
      obtain ⟨ua, un, uc, hU, hcase⟩ := nil_test _ _ _ hrm
      rw [hU] at hix
      have hqn := fun wx => Lib.run_eql_slice_nil (P := Tryz.prog) wx 22 5 ua un uc 0 0 Tryz.underlying22
      clear hrm hU
      rcases hcase with ⟨hR0, rfl, rfl, rfl⟩ | ⟨b, ad, hRb, rfl, rfl⟩
      · have hz : stepC RR C m = C := by unfold stepC; rw [hR0]
        have Hz := Lib.hid hz
        clear hR0 hz hrc hrcl hsC
        go_wp2_with fail
        go_roundg (4 - (m + 1))
        case measure => have := Hq.out; omega
        case rel => exact ⟨m + 1, by omega, rfl, by go_num, by rw [Hsucc.out, Hz.out], rfl⟩
      · have hz : stepC RR C m = if b.length < rc.length then m else C := by unfold stepC; rw [hRb, hrc]; rfl
        have Hz := Lib.hid hz
        generalize b.length = bl at hix hqn Hz
        generalize rc.length = rl at hcC hrcl Hz
        clear hRb hz hrc hrcl hsC
        by_cases hbr : bl < rl
        · have Hbr := Lib.hid hbr
          go_wp2_with fail
          go_roundg (4 - (m + 1))
          case measure => have := Hq.out; omega
          case rel => exact ⟨m + 1, by omega, rfl, by go_num, by rw [Hsucc.out, Hz.out, if_pos Hbr.out], rfl⟩
        · have Hbr := Lib.hid hbr
          go_wp2_with fail
          go_roundg (4 - (m + 1))
          case measure => have := Hq.out; omega
          case rel => exact ⟨m + 1, by omega, rfl, by go_num, by rw [Hsucc.out, Hz.out, if_neg Hbr.out], rfl⟩
    · obtain rfl : m = 4 := by omega
      have hCC : C = codeC RR := by rw [← HC.out, Hfour.out]
      have HCC := Lib.hid hCC
      clear hCC Hsucc Hfour HC
      obtain ⟨W5, hW5⟩ : ∃ x, x = wr := ⟨_, rfl⟩
      subst hW5
      have hsW := hs.kept hk04
      have hB7l : B7 < W5.heap.size := (Array.getElem?_eq_some_iff.1 hb7).1
      have hRC : RR C = some (bestC k L) := by rw [HCC.out]; exact Hbest.out.1
      have hRs : Rs W5 (four (.slice e0 l0 q0) (.slice e1 l1 q1) (.slice e2 l2 q2) (.slice e3 l3 q3) C) (some (bestC k L)) := by rw [← hRC]; exact HrsW.out C hclt
      obtain ⟨adB, cB, hvB, hsB⟩ := hRs
      have hfcell := Hcells.out C hclt
      rw [hvB] at hfcell
      have hixC := fun wx => run_indexAddr4 B7 wx C hclt
      have HRC := Lib.hid hRC
      have HvB := Lib.hid hvB
      have hC4 : C < 4 := hclt
      have hkbyte : UInt8.ofNat C = UInt8.ofNat (codeC (restC k (fullC L))) := by rw [HCC.out, HRR.out]
      have Hkb := Lib.hid hkbyte
      clear hRC hvB hcC hsC hrc hrcl hkbyte hvC
      go_wp2_with fail
      go_loopg [42, 10] n (fun q i bv wx => ∃ (t : Nat) (X : List Bool), t ≤ n ∧ q = n - t ∧ i = .int .i64 (t : Int) ∧ Hid (X = nullsC (L.take t)) ∧ wx.ownsRow W5.heap.size 4 1 bv t (X.map Value.bool) ∧ Keeps No W5 wx)
      case atStart => exact ⟨0, [], Nat.zero_le _, rfl, rfl, Lib.hid rfl, World.ownsRow_nil _ _ _ _, Keeps.refl _ _⟩
      case round =>
        obtain ⟨t, X, ht, hq2, rfl, HX, hown, hkx⟩ := hrel
        have Hq2 := Lib.hid hq2
        clear hq2
        have hzr := hkx.size
        by_cases hlt2 : t < n
        · have hlt' : t < L.length := by rw [Hlen.out]; exact hlt2
          have hsr := hsW.kept hkx
          have hix := hsr.ix (P := Tryz.prog) Tryz.underlying25 val_size hlt2 .i64
          obtain ⟨hld, _⟩ := hsr.load (P := Tryz.prog) (ty := 32) Tryz.underlying32 rfl val_size hlt2
          rw [vget L hlt'] at hld
          obtain ⟨x, hx⟩ : ∃ x, x = L.getD t Va.zero := ⟨_, rfl⟩
          rw [← hx] at hld
          have htk : nullsC (L.take (t + 1)) = nullsC (L.take t) ++ [decide (x.k = 0)] := by
            have hg : L.getD t Va.zero = L[t] := by simp [hlt']
            rw [hx, hg]; unfold nullsC; rw [List.take_succ_eq_append_getElem hlt', List.map_append]; rfl
          have Htk := Lib.hid htk
          clear hx hsr htk
          obtain ⟨xk, xn, xs, xf⟩ := x
          unfold Va.cells at hld
          simp only at hld Htk
          obtain ⟨r, hr⟩ : ∃ r, r = decide (xk = 0) := ⟨_, rfl⟩
          have e1 : (xk == 0) = r := by rw [hr]; by_cases h : xk = 0 <;> simp [h]
          rw [← hr] at Htk
          clear hr
          have hkB : Keeps No wr ((wr.alloc (.cells #[.int .i64 xk, .int .i64 xn, .string xs, .int .u64 (xf : Int)] 32)).alloc (.cells #[.bool r] 4)) := ((Keeps.refl No wr).alloc _).alloc _
          have hownB := hkB.own hown (fun _ _ => not_No _)
          go_wp2_with (first | (refine wpList_loadV (op := ⟨some 45, _, _, _, _, _⟩) rfl 32 (.tmp 44) rfl _ rfl _ hld ?_) | (at_builtin; go_loud (refine app_own rfl _ _ 43 rfl W5.heap.size 4 (.bool false) 1 Tryz.underlying43 bool_info14 rfl (by decide) _ t (X.map Value.bool) rfl hownB _ 1 1 [.bool r] rfl (one_in _ _ _ _) ?h1 ?hb ?hB ?_)))
          case h1 => first | rfl | (intro u hu; simp at hu; subst hu; rfl)
          case hb => omega
          case hB => first | omega | (simp; omega)
          intro v7 w7 hown7 hg7
          go_wp2_with fail
          go_roundg (n - (t + 1))
          case measure => have := Hq2.out; omega
          case rel => exact ⟨t + 1, X ++ [r], by omega, rfl, by go_num, Lib.hid (by rw [Htk.out, HX.out]), by rw [List.map_append]; exact hown7, (hkx.transNo hkB).grown hg7 (fun i hi hlt2 => by have := (hown.lt i hi).1; exact absurd hlt2 (by omega))⟩
        · obtain rfl : t = n := by omega
          have hXn : X = nullsC L := by rw [HX.out, List.take_of_length_le (by rw [Hlen.out]; exact Nat.le_refl _)]
          obtain ⟨aX, cX, rfl, hsX, _⟩ := Sl.ofOwn hown
          have HXn := Lib.hid hXn
          clear hXn HX
          go_wp2_with fail
          refine (natural_any none 0 0 [] t wr (Sl.none _) (by omega) (by omega)).mono ?_
          rintro e w6 ⟨v6, rfl, hown6, hk6⟩
          simp only [Nat.zero_add, List.nil_append] at hown6
          have hkm : k % 256 = k := by omega
          have hCm : (C : Int) % 256 = C := by omega
          have hkB : Keeps No w6 (w6.alloc (.cells #[.int .u8 k, .int .u8 (C : Int)] 5)) := (Keeps.refl No w6).alloc _
          have hownB := hkB.own hown6 (fun _ _ => not_No _)
          have h7l := nat7_len2 hn
          go_wp2_with (at_builtin; go_loud (refine app_own rfl _ _ 22 rfl wr.heap.size 5 (.int .u8 0) 1 Tryz.underlying22 byte_infoX rfl (by decide) _ (nat7 t).length ((nat7 t).map byteV) rfl hownB _ 2 2 [.int .u8 k, .int .u8 (C : Int)] rfl (Sl.lit _ #[.int .u8 k, .int .u8 (C : Int)] 5 _ rfl 2 rfl (by decide)) ?h1 ?hb ?hB ?_))
          case h1 => intro u hu; simp at hu; rcases hu with rfl | rfl <;> rfl
          case hb => omega
          case hB => have := hk6.size; simp; omega
          intro v8 w8 hown8 hg8
          have hk58 : Keeps No wr w8 := (hk6.transNo hkB).grown hg8 (fun i hi hlt2 => by have := (hown6.lt i hi).1; omega)
          have e8 : (nat7 t).map byteV ++ [.int .u8 k, .int .u8 (C : Int)] = (nat7 t ++ [UInt8.ofNat k.toNat, UInt8.ofNat C]).map byteV := by
            rw [List.map_append]
            simp only [List.map_cons, List.map_nil, byteV]
            rw [kind_byte hk14, ofNat_toNat (show C < 256 by omega)]
          rw [e8] at hown8
          obtain ⟨a8, c8, rfl, hs8, _⟩ := Sl.ofOwn hown8
          have hsX8 := hsX.kept hk58
          have hcell8 := (hkx.transNo hk58).cell hfcell (not_No _)
          have hsB8 := hsB.kept (hkx.transNo hk58)
          go_wp2_with fail
          have hfam := fun wx (hx : Keeps No w8 wx) => hx.cell hcell8 (not_No _)
          refine wp_region_held_drew (S := fun wx => Keeps No w8 wx) (by kernel_rfl) ((Keeps.refl No w8).drew) (fun hS => ?_)
          refine tk (i := 0) (oi := ⟨some 63, _, _, _, _, _⟩) (v := ?_) rfl (by kernel_rfl) (fun _ _ _ h => h) (by assumption) (by rfl) (fun w hSw => ?_) ?_; rotate_left; (focus (first | (go_simp; done) | (go_simp; with_reducible rfl))); simp only [Act.put, List.setIfInBounds_toArray, List.set_cons_zero, List.set_cons_succ]
          refine tk (i := 1) (oi := ⟨some 64, _, _, _, _, _⟩) (v := ?_) rfl (by kernel_rfl) (fun _ _ _ h => h) (by assumption) (by rfl) (fun w hSw => ?_) ?_; rotate_left; (focus (first | (go_simp; done) | (go_simp; with_reducible rfl))); simp only [Act.put, List.setIfInBounds_toArray, List.set_cons_zero, List.set_cons_succ]
          refine tk (i := 3) (oi := ⟨some 66, _, _, _, _, _⟩) (v := ?_) rfl (by kernel_rfl) (fun _ _ _ h => h) (by assumption) (by rfl) (fun w hSw => ?_) ?_; rotate_left; (focus (first | (go_simp; done) | (go_simp; with_reducible rfl))); simp only [Act.put, List.setIfInBounds_toArray, List.set_cons_zero, List.set_cons_succ]
          refine tk (i := 4) (oi := ⟨some 67, _, _, _, _, _⟩) (v := ?_) rfl (by kernel_rfl) (fun _ _ _ h => h) (by assumption) (by rfl) (fun w hSw => ?_) ?_; rotate_left; (focus (first | (go_simp; done) | (go_simp; with_reducible rfl))); simp only [Act.put, List.setIfInBounds_toArray, List.set_cons_zero, List.set_cons_succ]
          refine tk (i := 5) (oi := ⟨some 68, _, _, _, _, _⟩) (v := ?_) rfl (by kernel_rfl) (fun _ _ _ h => h) (by assumption) (by rfl) (fun w hSw => ?_) ?_; rotate_left; (focus (first | (go_simp; done) | (go_simp; with_reducible rfl))); simp only [Act.put, List.setIfInBounds_toArray, List.set_cons_zero, List.set_cons_succ]
          refine alone (i := 2) (oi := ⟨some 65, _, _, _, _, _⟩) rfl (by kernel_rfl) (by rfl) (fun K hK => ?_); go_simp
          refine (put_any _ _ _ X _ (hsX8.kept hS) (by omega)).mono ?_
          rintro e w9 ⟨v9, rfl, hown9, hk9⟩
          obtain ⟨a9, c9, rfl, hs9, _⟩ := Sl.ofOwn hown9
          have hk89 := hS.transNo hk9
          have hc9 := hk89.cell hcell8 (not_No _)
          have hfam9 := fun wx (hx : Keeps No w9 wx) => hx.cell hc9 (not_No _)
          have hXl : X.length = t := by rw [HXn.out, nullsC_len, Hlen.out]
          have hs89 := hs8.kept hk89
          have hsB9 := hsB8.kept hk89
          refine hK.out (fun wx => Keeps No w9 wx) _ _ (fun _ hx => hS.transNo (Keeps.transNo (hk9) hx)) (Keeps.refl _ _) ?_
          clear hK K hS
          intro hS
          refine alone (i := 6) (oi := ⟨some 69, _, _, _, _, _⟩) rfl (by kernel_rfl) (by rfl) (fun K hK => ?_); go_simp
          have hV := Sl.lit w9 #[.slice a8 ((nat7 t).length + 2) c8, .slice a9 (putTo X t).length c9, .slice (some adB) (bestC k L).length cB] 22 _ rfl 3 rfl (by decide)
          have hkV : Keeps No w9 (w9.alloc (.cells #[.slice a8 ((nat7 t).length + 2) c8, .slice a9 (putTo X t).length c9, .slice (some adB) (bestC k L).length cB] 22)) := (Keeps.refl No w9).alloc _
          generalize w9.alloc (.cells #[.slice a8 ((nat7 t).length + 2) c8, .slice a9 (putTo X t).length c9, .slice (some adB) (bestC k L).length cB] 22) = w10 at hV hkV ⊢
          have hs8' := hs89.kept hkV
          have hs9' := hs9.kept hkV
          have hsB' := hsB9.kept hkV
          obtain ⟨S3, hS3⟩ : ∃ S3, S3 = [nat7 t ++ [UInt8.ofNat k.toNat, UInt8.ofNat C], putTo X t, bestC k L] := ⟨_, rfl⟩
          have hcat : S3.flatten = colPut k L := by
            rw [hS3]
            unfold colPut headC
            rw [← Hkb.out, ← HXn.out, hXl, Hlen.out]
            simp
          have hsl : ∀ i, i < 3 → ∃ a c, ([.slice a8 ((nat7 t).length + 2) c8, .slice a9 (putTo X t).length c9, .slice (some adB) (bestC k L).length cB] : List Value).getD i undef = .slice a (S3.getD i []).length c ∧ Sl w10 a (S3.getD i []).length c ((S3.getD i []).map byteV) := by
            intro i hi
            rw [hS3]
            match i, hi with
            | 0, _ =>
              have e3 : (nat7 t ++ [UInt8.ofNat k.toNat, UInt8.ofNat C]).length = (nat7 t).length + 2 := by simp
              exact ⟨a8, c8, by rw [← e3]; rfl, by rw [← e3] at hs8'; exact hs8'⟩
            | 1, _ => exact ⟨a9, c9, rfl, hs9'⟩
            | 2, _ => exact ⟨_, cB, rfl, hsB'⟩
          have hcl := colPut_len HR.out.symm hL
          have hcc := concatN_any _ 3 3 _ S3 w10 hV (by rw [hS3]; rfl) hsl (by rw [hcat]; omega) (by decide)
          rw [hcat] at hcc
          have Hcc := Lib.hid hcc
          clear hs8' hs9' hsB' hS3 hcat hsl hcl hcc
          refine hK.out (fun wx => Keeps No w10 wx) _ _ (fun _ hx => hS.transNo (Keeps.transNo (hkV) hx)) (Keeps.refl _ _) ?_
          clear hK K hS
          intro hS
          refine alone (i := 7) (oi := ⟨some 70, _, _, _, _, _⟩) rfl (by kernel_rfl) (by rfl) (fun K hK => ?_); go_simp
          refine Hcc.out.mono ?_
          rintro e w11 ⟨v11, rfl, hown11, hk11⟩
          refine hK.out (fun wx => Keeps No w11 wx) _ _ (fun _ hx => hS.transNo (Keeps.transNo (hk11) hx)) (Keeps.refl _ _) ?_
          clear hK K hS
          intro hS
          refine tk (i := 8) (oi := ⟨some 4, _, _, _, _, _⟩) (v := ?_) rfl (by kernel_rfl) (fun _ _ _ h => h) (by assumption) (by rfl) (fun w hSw => ?_) ?_; rotate_left; (focus (first | (go_simp; done) | (go_simp; with_reducible rfl))); simp only [Act.put, List.setIfInBounds_toArray, List.set_cons_zero, List.set_cons_succ]
          refine tk (i := 9) (oi := ⟨some 5, _, _, _, _, _⟩) (v := ?_) rfl (by kernel_rfl) (fun _ _ _ h => h) (by assumption) (by rfl) (fun w hSw => ?_) ?_; rotate_left; (focus (first | (go_simp; done) | (go_simp; with_reducible rfl))); simp only [Act.put, List.setIfInBounds_toArray, List.set_cons_zero, List.set_cons_succ]
          refine wpAnyH_done (by kernel_rfl) ?_ _
          go_wp2_with fail
          go_ret2
          have hall := ((hk04.transNo (hkx.transNo hk58)).transNo hk89).transNo hkV
          exact .inr ⟨HR.out.symm, v11, rfl, own_le hown11 hall.size, hall.transNo hk11⟩
end Go.Proofs.YthbipcjgpocpaaaGreat
