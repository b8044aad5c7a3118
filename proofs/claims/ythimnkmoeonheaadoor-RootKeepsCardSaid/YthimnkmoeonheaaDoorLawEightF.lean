/- Acts on the pages beside a root's cell; the walk of strongroomlaw08.first. -/
import Derived.Test.YthimnkmoeonheaaDoorPlainRootB
import Derived.Test.YthimnkmoeonheaaDoorRowKit
namespace Go.Proofs.YthimnkmoeonheaaDoor
open Go.RowKit
set_option linter.unusedSimpArgs false
set_option linter.unusedVariables false
set_option maxRecDepth 100000

section
variable (bd bv bc : Nat) (F : Nat → Prop) (s : RS) (G : List K3) (w : World)
theorem rt_limit (n : Int) (h : RT w bd bv bc F s G) (hn : n ≤ 9223372036854775807) :
    Calls Tryd.prog 24 #[.pointer (some ⟨bd, 0, none⟩), .int .i64 n] w fun e w' => e = .returned (.tuple #[]) ∧ ∃ F', RT w' bd bv bc F' ⟨s.D.limit n, s.A, s.ver, s.mark⟩ G ∧ Step (FC F bc) (FC F' bc) w w' := by
  refine (pv_limit bd bv F s.D s.A G w n h.1 hn).mono ?_
  rintro e w1 ⟨rfl, F1, hP1, hs1⟩
  exact ⟨rfl, F1, (h.step hP1 hs1).1, (h.step hP1 hs1).2⟩
theorem rt_crash (a : Option Addr) (n c : Nat) (keep : List Bool) (h : RT w bd bv bc F s G) (hs : Sl w a n c (keep.map Value.bool)) (hin : 0 < n → ¬ FC F bc (a.getD default).block) :
    Calls Tryd.prog 26 #[.pointer (some ⟨bd, 0, none⟩), .slice a n c] w fun e w' => e = .returned (.tuple #[]) ∧ ∃ F', RT w' bd bv bc F' ⟨s.D.crash keep, s.A, s.ver, s.mark⟩ G ∧ Step (FC F bc) (FC F' bc) w w' := by
  refine (pv_crash bd bv F s.D s.A G w a n c keep h.1 hs (fun h0 hf => hin h0 (.inl hf))).mono ?_
  rintro e w1 ⟨rfl, F1, hP1, hs1⟩
  exact ⟨rfl, F1, (h.step hP1 hs1).1, (h.step hP1 hs1).2⟩
theorem rt_over (i : Int) (a : Option Addr) (n c : Nat) (p : List UInt8) (h : RT w bd bv bc F s G) (hs : Sl w a n c (p.map byteV)) (hn : n ≤ 140737488351232) (hin : 0 < n → ¬ FC F bc (a.getD default).block) :
    Calls Tryd.prog 18 #[.pointer (some ⟨bd, 0, none⟩), .int .i64 i, .slice a n c] w fun e w' => e = .returned (.int .i64 (s.D.over i p).2) ∧ ∃ F', RT w' bd bv bc F' ⟨(s.D.over i p).1, s.A, s.ver, s.mark⟩ G ∧ Step (FC F bc) (FC F' bc) w w' := by
  refine (pv_over bd bv F s.D s.A G w i a n c p h.1 hs hn (fun h0 hf => hin h0 (.inl hf))).mono ?_
  rintro e w1 ⟨rfl, F1, hP1, hs1⟩
  exact ⟨rfl, F1, (h.step hP1 hs1).1, (h.step hP1 hs1).2⟩
theorem rt_write (i : Int) (a : Option Addr) (n c : Nat) (p : List UInt8) (h : RT w bd bv bc F s G) (hs : Sl w a n c (p.map byteV)) (hn : n ≤ 140737488351232) (hin : 0 < n → ¬ FC F bc (a.getD default).block) (hW : s.D.W.length ≤ 1099511627776) :
    Calls Tryd.prog 40 #[.pointer (some ⟨bd, 0, none⟩), .int .i64 i, .slice a n c] w fun e w' => e = .returned (.int .i64 (s.D.write i p).2) ∧ ∃ F', RT w' bd bv bc F' ⟨(s.D.write i p).1, s.A, s.ver, s.mark⟩ G ∧ Step (FC F bc) (FC F' bc) w w' := by
  obtain ⟨Fd, hd, hsub, back⟩ := h.1.dev
  refine (d_write bd Fd s.D i a n c p w hd hs hn (fun h0 hf => hin h0 (.inl (hsub _ hf))) hW).mono ?_
  rintro e w1 ⟨rfl, Fd1, hd1, hs1⟩
  obtain ⟨F1, hP1, hS1⟩ := back _ _ _ hd1 hs1
  exact ⟨rfl, F1, (h.step hP1 hS1).1, (h.step hP1 hS1).2⟩
theorem rt_read (i : Int) (h : RT w bd bv bc F s G) :
    Calls Tryd.prog 17 #[.pointer (some ⟨bd, 0, none⟩), .int .i64 i] w fun e w' =>
      ∃ v, e = .returned (.tuple #[v, .int .i64 (s.D.read i).2]) ∧ w'.ownsRow w.heap.size 5 1 v (s.D.read i).1.length ((s.D.read i).1.map byteV) ∧ Keeps No w w' := pv_read bd bv F s.D s.A G w i h.1
end

def D4 : DS := ⟨List.replicate 4 (full []), [], none⟩
def st0 (D : DS) : RS := ⟨D, [], 0, 0⟩
theorem good0 (D : DS) (now : List UInt8) : Good8 (st0 D) now := fun h => absurd rfl h
theorem uniq0 : Uniq8 [] := fun i e h => by simp at h

/-- A device, a vault, a cell, all new. -/
theorem rtnew (n : Nat) (w : World) (bd bv : Nat) (Fd Fv : Nat → Prop) (w1 w2 : World) (D : DS) (hd : Dv w1 bd Fd D) (hF : ∀ i, Fd i → w.heap.size ≤ i) (hv : VF w2 bv Fv [] []) (hF2 : ∀ i, Fv i → w1.heap.size ≤ i) (hk : Keeps No w w1) (hk2 : Keeps No w1 w2) :
    ∃ F, RT (w2.alloc (.cells #[.int .i64 0, .int .i64 0] 55)) bd bv w2.heap.size F (st0 D) [] ∧ (∀ i, FC F w2.heap.size i → w.heap.size ≤ i) := by
  obtain ⟨F, hP, hFw⟩ := pvnew n w bd bv Fd Fv D [] [] w1 w2 hd hF hv hF2 hk hk2
  have hk3 : Keeps No w2 (w2.alloc (.cells #[.int .i64 0, .int .i64 0] 55)) := (Keeps.refl No w2).alloc _
  refine ⟨F, ⟨hP.kept hk3, heap_alloc_new w2 _, fun h => by have := hP.lt _ h; omega⟩, fun i hi => ?_⟩
  rcases hi with hi | rfl
  · exact hFw i hi
  · exact Nat.le_trans hk.size hk2.size

def first8A : RS × Int := rput (st0 D4) [] [97]
theorem first8_a : first8A.2 = 0 ∧ first8A.1.D.lim = none ∧ first8A.1.ver = 1 ∧ first8A.1.mark = 1 ∧ first8A.1.D.K.length = 4 ∧ Good8 first8A.1 [97] ∧ Safe8 first8A.1 ∧ first8A.1.A.length = 1 ∧ first8A.1.D.W.length = 0 := by
  unfold first8A
  have hi := (rput_inv (st0 D4) [] [97] (by decide) (by decide) (good0 _ _)).2
  have hr := rput_none (st0 D4) [97] (by decide) (by decide) rfl
  rw [hr] at hi ⊢
  rcases hi with hi | hi
  · exact ⟨rfl, rfl, rfl, rfl, keepW_len _ _, hi.2.2.1, hi.2.2.2.1, rfl, rfl⟩
  · exact absurd hi.1 (by decide)
def first8L : RS := ⟨first8A.1.D.limit 1, first8A.1.A, first8A.1.ver, first8A.1.mark⟩
def first8B : RS × Int := rput first8L [] [98]
theorem first8_b : first8B.2 = 40 ∧ first8B.1.ver = 1 ∧ first8B.1.mark = 1 ∧ Good8 first8B.1 [97] ∧ Safe8 first8B.1 ∧ first8B.1.D.K.length = 4 ∧ first8B.1.A.length = 2 := by
  obtain ⟨a1, a2, a3, a4, a5, a6, a7, a8, a9⟩ := first8_a
  unfold first8B
  have hl : first8L.D.K.length = 4 := a5
  have hi := rput_inv first8L [97] [98] (by omega) (by decide) a6
  have hr := rput_one first8L [98] (by omega) (by decide) rfl
  have hk := (rput_len first8L [] [98]).1
  rcases hi.2 with h | h
  · rw [hr] at h; exact absurd h.1 (by decide)
  · refine ⟨h.1, h.2.1.trans a3, h.2.2.1.trans a4, h.2.2.2.1, h.2.2.2.2 a7, hk.trans hl, ?_⟩
    rw [hi.1]; simp; exact a8
def first8C : RS := ⟨first8B.1.D.crash [true], first8B.1.A, first8B.1.ver, first8B.1.mark⟩
theorem first8_c : rget first8C [] = ([97], 0) := by
  obtain ⟨a1, a2, a3, a4, a5, a6, a7⟩ := first8_b
  exact rget_safe first8C [97] a4 (safe_crash _ _ a5) (by show 2 ≤ (crashW _ _).length; rw [crashW_len]; omega) (by show first8B.1.ver ≠ 0; omega) (by simp [first8C, DS.crash]) (by show first8B.1.mark < _; omega)

set_option maxHeartbeats 2000000 in
theorem first08_any (w : World) :
    Calls Tryd.prog 23 #[] w fun e w' => e = .returned (.bool true) ∧ Keeps No w w' := by
  obtain ⟨a1, a2, a3, a4, a5, a6, a7, a8, a9⟩ := first8_a
  obtain ⟨b1, b2, b3, b4, b5, b6, b7⟩ := first8_b
  have gc := first8_c
  go_enter Tryd.func23, Tryd.ntmps23
  go_wp2_with fail
  refine (d_new 4 w (by omega) (by omega)).mono ?_
  rintro e w1 ⟨bd, Fd, rfl, hd1, hF, hk1⟩
  go_wp2_with fail
  refine (f_new w1).mono ?_
  rintro e w2 ⟨bv, Fv, rfl, hv2, hF2, hk2⟩
  obtain ⟨F, hT, hFw⟩ := rtnew 4 w bd bv Fd Fv w1 w2 _ hd1 hF hv2 hF2 hk1 hk2
  have hk3 : Keeps No w2 (w2.alloc (.cells #[.int .i64 0, .int .i64 0] 55)) := (Keeps.refl No w2).alloc _
  have hk03 := (hk1.transNo hk2).transNo hk3
  change RT _ bd bv _ F (st0 D4) [] at hT
  clear hd1 hF hv2 hF2 hk1 hk2
  go_wp2_with fail
  generalize hw3 : (w2.alloc (.cells #[.int .i64 0, .int .i64 0] 55)) = w3 at hT hk3 hk03 ⊢
  generalize w2.heap.size = bc at hT hFw ⊢
  have hcall := rget_any bd bv bc F (st0 D4) [] w3 hT (by decide) (by decide) (by decide)
  rw [rget_zero _ _ rfl] at hcall
  refine hcall.mono ?_
  rintro e w4 ⟨v4, rfl, hk4, hown4⟩
  clear hcall hown4 hk3 hw3
  have hT4 := hT.kept hk4
  have hk04 := hk03.transNo hk4
  have kc := convB
  have hlA := Sl.litK w4 #[.int .u8 97] 5 (1, 2) [97] rfl 1 rfl (by decide)
  have hkA : Keeps No w4 (w4.alloc (.cells #[.int .u8 97] 5 (1, 2))) := (Keeps.refl No _).alloc _
  have hcall := rput_any bd bv bc F (st0 D4) [] _ 1 1 [97] _ (hT4.kept hkA) (by decide) (by decide) (by decide) hlA (by omega)
  change Calls _ _ _ _ (RPutPost bd bv bc F first8A [] _) at hcall
  unfold RPutPost at hcall
  rw [a1] at hcall
  go_wp2_with fail
  refine hcall.mono ?_
  rintro e w5 ⟨rfl, F5, hT5, hs5⟩
  clear hcall hlA
  have hk05 : Keeps No w w5 := (hk04.transNo hkA).trans hs5.keeps (fun i hi h => absurd (hFw i h) (by omega))
  have hF5 : ∀ i, FC F5 bc i → w.heap.size ≤ i := fun i hi => (hs5.fresh i hi).elim (hFw i) (fun h => by have := (hk04.transNo hkA).size; omega)
  have hcall := rt_limit bd bv bc F5 first8A.1 [] w5 1 hT5 (by omega)
  go_wp2_with fail
  refine hcall.mono ?_
  rintro e w6 ⟨rfl, F6, hT6, hs6⟩
  clear hcall
  change RT w6 bd bv bc F6 first8L [] at hT6
  have hk06 : Keeps No w w6 := hk05.trans hs6.keeps (fun i hi h => absurd (hF5 i h) (by omega))
  have hF6 : ∀ i, FC F6 bc i → w.heap.size ≤ i := fun i hi => (hs6.fresh i hi).elim (hF5 i) (fun h => by have := hk05.size; omega)
  have hlA := Sl.litK w6 #[.int .u8 98] 5 (1, 2) [98] rfl 1 rfl (by decide)
  have hkA : Keeps No w6 (w6.alloc (.cells #[.int .u8 98] 5 (1, 2))) := (Keeps.refl No _).alloc _
  have hcall := rput_any bd bv bc F6 first8L [] _ 1 1 [98] _ (hT6.kept hkA) (by show first8A.1.A.length ≤ _; omega) (by show first8A.1.D.W.length ≤ _; omega) (by show first8A.1.ver ≤ _; omega) hlA (by omega)
  change Calls _ _ _ _ (RPutPost bd bv bc F6 first8B [] _) at hcall
  unfold RPutPost at hcall
  rw [b1] at hcall
  go_wp2_with fail
  refine hcall.mono ?_
  rintro e w7 ⟨rfl, F7, hT7, hs7⟩
  clear hcall hlA
  have hk07 : Keeps No w w7 := (hk06.transNo hkA).trans hs7.keeps (fun i hi h => absurd (hF6 i h) (by omega))
  have hF7 : ∀ i, FC F7 bc i → w.heap.size ≤ i := fun i hi => (hs7.fresh i hi).elim (hF6 i) (fun h => by have := (hk06.transNo hkA).size; omega)
  have hlC := Sl.lit w7 #[.bool true] 4 ([true].map Value.bool) rfl 1 rfl (by decide)
  have hkC : Keeps No w7 (w7.alloc (.cells #[.bool true] 4)) := (Keeps.refl No _).alloc _
  have h7lt := hT7.lt
  have hcall := rt_crash bd bv bc F7 first8B.1 [] _ _ 1 1 [true] (hT7.kept hkC) hlC (fun _ h => by have := h7lt _ h; simp at this)
  go_wp2_with fail
  refine hcall.mono ?_
  rintro e w8 ⟨rfl, F8, hT8, hs8⟩
  clear hcall hlC
  change RT w8 bd bv bc F8 first8C [] at hT8
  have hk08 : Keeps No w w8 := (hk07.transNo hkC).trans hs8.keeps (fun i hi h => absurd (hF7 i h) (by omega))
  have hcall := rget_any bd bv bc F8 first8C [] w8 hT8 (by show first8B.1.A.length ≤ _; omega) (by show first8B.1.ver ≤ _; omega) (by show first8B.1.mark ≤ _; omega)
  rw [gc] at hcall
  go_wp2_with fail
  refine hcall.mono ?_
  rintro e w9 ⟨v9, rfl, hk9, hown9⟩
  obtain ⟨a9', c9, rfl, hs9, _⟩ := Sl.ofOwn hown9
  simp only [List.length_cons, List.length_nil, Nat.zero_add] at hs9
  have hstr := strB hs9
  have hbC := (hT8.kept hk9).2.1
  have e1 : ((first8C.ver : Nat) : Int) = 1 := by show ((first8B.1.ver : Nat) : Int) = 1; omega
  rw [e1] at hbC
  have hver := rversion_any bc 1 (first8C.mark : Int) w9 hbC
  have heq : (([97] : List UInt8) == (⟨#[97]⟩ : ByteArray).toList) = true := by rw [ByteArray.toList_eq, beq_iff_eq]
  clear hcall
  go_wp2_with fail
  refine hver.mono ?_
  rintro e wa ⟨rfl, rfl⟩
  go_wp2_with fail
  go_ret
  exact ⟨rfl, hk08.transNo hk9⟩
end Go.Proofs.YthimnkmoeonheaaDoor
