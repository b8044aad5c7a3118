/- The walk of zone.May. -/
import Derived.Test.YtmhmpnbcjcmnnaaZone
namespace Go.Proofs.Ytmhmpnbcjcmnnaa
open Go.RowKit
set_option linter.unusedSimpArgs false
set_option linter.unusedVariables false

def zmay (z : Zo) (op : Int) (v : Va) : Bool :=
  if z.mn.k = 0 then false
  else if z.mn.k ≠ z.mx.k then true
  else if op = 0 then decide (zholds 3 z.mn v = 1) && decide (zholds 5 z.mx v = 1)
  else if op = 1 then decide (zholds 1 z.mn v = 1) || decide (zholds 1 z.mx v = 1)
  else if op = 2 ∨ op = 3 then decide (zholds op z.mn v = 1)
  else if op = 4 ∨ op = 5 then decide (zholds op z.mx v = 1)
  else false
set_option maxRecDepth 100000 in
theorem yes_any (b : Nat) (op : Int) (v e : Va) (he : e.wf) (hv : v.wf) (hop : (Lit.int .i64 op).wf = true) (w : World) (hb : w.heap[b]? = some (.cells #[.int .i64 v.k, .int .i64 v.n, .string v.s, .int .u64 (v.f : Int)] 37 (0, 0))) :
    Calls Try.prog 55 #[.int .i64 op, e.agg, .pointer (some ⟨b, 0, none⟩)] w fun r w' => r = .returned (.bool (decide (zholds op e v = 1))) ∧ Keeps No w w' := by
  have hcall := fun wx => zholds_any op e v he hv hop wx
  generalize zholds op e v = R at hcall ⊢
  obtain ⟨k, n, s, f⟩ := e
  obtain ⟨vk, vn, vs, vf⟩ := v
  unfold Va.agg at hcall ⊢
  simp only at hcall hb ⊢
  have hbW := ((Keeps.refl No w).alloc (.cells #[.int .i64 k, .int .i64 n, .string s, .int .u64 (f : Int)] 37)).blk hb (not_No _)
  obtain ⟨a0, a1, a2, a3⟩ := row4 hbW
  go_enter Try.func55, Try.ntmps55
  go_wp2_with fail
  refine (hcall _).mono ?_
  rintro e w1 ⟨rfl, hk1⟩
  by_cases hR : R = 1
  · have e1 : (R == 1) = true := by simp [hR]
    have HR := Lib.hid hR
    clear hR
    go_wp2_with fail
    go_ret
    exact ⟨ret_bool (by simp [HR.out]), ((Keeps.refl No w).alloc _).transNo hk1⟩
  · have e1 : (R == 1) = false := by simp [hR]
    have HR := Lib.hid hR
    clear hR
    go_wp2_with fail
    go_ret
    exact ⟨ret_bool (by simp [HR.out]), ((Keeps.refl No w).alloc _).transNo hk1⟩

set_option maxRecDepth 100000 in
set_option maxHeartbeats 4000000 in
theorem may_any (z : Zo) (op : Int) (v : Va) (hz : z.wf) (hv : v.wf) (hop : (Lit.int .i64 op).wf = true) (w : World) : Calls Try.prog 30 #[z.agg, .int .i64 op, v.agg] w fun e w' => e = .returned (.bool (zmay z op v)) ∧ Keeps No w w' := by
  have hmn := fun (op : Int) (hop : (Lit.int .i64 op).wf = true) (b : Nat) wx hb => yes_any b op v z.mn hz.2.2.2.1 hv hop wx hb
  have hmx := fun (op : Int) (hop : (Lit.int .i64 op).wf = true) (b : Nat) wx hb => yes_any b op v z.mx hz.2.2.2.2 hv hop wx hb
  obtain ⟨R, hR⟩ : ∃ R, R = zmay z op v := ⟨_, rfl⟩
  rw [← hR]
  unfold zmay at hR
  have hw := wf_i64_iff hop
  have HR := Lib.hid hR
  obtain ⟨HA, hHA⟩ : ∃ HA : Int → Int, ∀ o, HA o = zholds o z.mn v := ⟨fun o => zholds o z.mn v, fun _ => rfl⟩
  obtain ⟨HB, hHB⟩ : ∃ HB : Int → Int, ∀ o, HB o = zholds o z.mx v := ⟨fun o => zholds o z.mx v, fun _ => rfl⟩
  simp only [← hHA, ← hHB] at hmn hmx
  have HHA := Lib.hid hHA
  have HHB := Lib.hid hHB
  have HMN := Lib.hid hmn
  have HMX := Lib.hid hmx
  clear hR hHA hHB hop hz hv hmn hmx
  obtain ⟨r, nu, na, ⟨k1, n1, s1, f1⟩, ⟨k2, n2, s2, f2⟩⟩ := z
  obtain ⟨k, n, s, f⟩ := v
  unfold Va.agg at HMN HMX
  unfold Zo.agg Va.agg
  simp only at HMN HMX HR HHA HHB ⊢
  go_enter Try.func30, Try.ntmps30
  go_upto_block 0 with fail
  have hbZ := ((Keeps.refl No (w.alloc (.cells #[.int .i64 r, .int .i64 nu, .int .i64 na, .int .i64 k1, .int .i64 n1, .string s1, .int .u64 (f1 : Int), .int .i64 k2, .int .i64 n2, .string s2, .int .u64 (f2 : Int)] 39))).alloc (.cells #[.int .i64 k, .int .i64 n, .string s, .int .u64 (f : Int)] 37)).blk (heap_alloc_new w (.cells #[.int .i64 r, .int .i64 nu, .int .i64 na, .int .i64 k1, .int .i64 n1, .string s1, .int .u64 (f1 : Int), .int .i64 k2, .int .i64 n2, .string s2, .int .u64 (f2 : Int)] 39)) (not_No _)
  have hbV := heap_alloc_new (w.alloc (.cells #[.int .i64 r, .int .i64 nu, .int .i64 na, .int .i64 k1, .int .i64 n1, .string s1, .int .u64 (f1 : Int), .int .i64 k2, .int .i64 n2, .string s2, .int .u64 (f2 : Int)] 39)) (.cells #[.int .i64 k, .int .i64 n, .string s, .int .u64 (f : Int)] 37)
  rw [show (w.alloc (.cells #[.int .i64 r, .int .i64 nu, .int .i64 na, .int .i64 k1, .int .i64 n1, .string s1, .int .u64 (f1 : Int), .int .i64 k2, .int .i64 n2, .string s2, .int .u64 (f2 : Int)] 39)).heap.size = w.heap.size + 1 from by simp] at hbV
  have hkW : Keeps No w ((w.alloc (.cells #[.int .i64 r, .int .i64 nu, .int .i64 na, .int .i64 k1, .int .i64 n1, .string s1, .int .u64 (f1 : Int), .int .i64 k2, .int .i64 n2, .string s2, .int .u64 (f2 : Int)] 39)).alloc (.cells #[.int .i64 k, .int .i64 n, .string s, .int .u64 (f : Int)] 37)) := ((Keeps.refl No w).alloc _).alloc _
  generalize ((w.alloc (.cells #[.int .i64 r, .int .i64 nu, .int .i64 na, .int .i64 k1, .int .i64 n1, .string s1, .int .u64 (f1 : Int), .int .i64 k2, .int .i64 n2, .string s2, .int .u64 (f2 : Int)] 39)).alloc (.cells #[.int .i64 k, .int .i64 n, .string s, .int .u64 (f : Int)] 37)) = W at hbZ hbV hkW ⊢
  have hmn := fun o ho => HMN.out o ho (w.heap.size + 1)
  have hmx := fun o ho => HMX.out o ho (w.heap.size + 1)
  obtain ⟨z0, z1, z2, z3, z4, z5, z6, z7, z8, z9, z10⟩ := row11 hbZ
  by_cases h1 : k1 = 0
  · have e1 : (k1 == 0) = true := by simp [h1]
    have hr : R = false := by rw [HR.out, if_pos h1]
    have Hr := Lib.hid hr
    clear h1 hr
    go_wp2_with fail
    go_ret
    exact ⟨ret_bool (by rw [Hr.out]), hkW⟩
  have e1 : (k1 == 0) = false := by simp [h1]
  by_cases h2 : k1 = k2
  · have e2 : (k1 != k2) = false := by simp [h2]
    have HR2 : Hid (R = _) := Lib.hid (by rw [HR.out, if_neg h1, if_neg (by simpa using h2)])
    clear h1 h2 HR HMN HMX
    have hfam := fun wx (hx : Keeps No W wx) => row11 (hx.blk hbZ (not_No _))
    have hV := fun wx (hx : Keeps No W wx) => hx.blk hbV (not_No _)
    rcases (show op = 0 ∨ op = 1 ∨ op = 2 ∨ op = 3 ∨ op = 4 ∨ op = 5 ∨ (op < 0 ∨ 5 < op) by omega) with rfl | rfl | rfl | rfl | rfl | rfl | ho
    · go_wp2_with fail
      refine (hmn 3 (by decide) _ hbV).mono ?_
      rintro e w4 ⟨rfl, hk4⟩
      obtain ⟨z0, z1, z2, z3, z4, z5, z6, z7, z8, z9, z10⟩ := hfam _ hk4
      by_cases hA : HA 3 = 1
      · have eA : decide (HA 3 = 1) = true := decide_eq_true hA
        rw [eA]
        have HA1 := Lib.hid hA
        clear hA eA
        go_wp2_with fail
        refine (hmx 5 (by decide) _ (hV _ hk4)).mono ?_
        rintro e w5 ⟨rfl, hk5⟩
        go_wp2_with fail
        go_ret
        exact ⟨ret_bool (by rw [HR2.out]; simp [← HHA.out, ← HHB.out, HA1.out]), (hkW.transNo hk4).transNo hk5⟩
      · have eA : decide (HA 3 = 1) = false := decide_eq_false hA
        rw [eA]
        have HA1 := Lib.hid hA
        clear hA eA
        go_wp2_with fail
        go_ret
        exact ⟨ret_bool (by rw [HR2.out]; simp [← HHA.out, ← HHB.out, HA1.out]), hkW.transNo hk4⟩
    · go_wp2_with fail
      refine (hmn 1 (by decide) _ hbV).mono ?_
      rintro e w4 ⟨rfl, hk4⟩
      obtain ⟨z0, z1, z2, z3, z4, z5, z6, z7, z8, z9, z10⟩ := hfam _ hk4
      by_cases hA : HA 1 = 1
      · have eA : decide (HA 1 = 1) = true := decide_eq_true hA
        rw [eA]
        have HA1 := Lib.hid hA
        clear hA eA
        go_wp2_with fail
        go_ret
        exact ⟨ret_bool (by rw [HR2.out]; simp [← HHA.out, ← HHB.out, HA1.out]), hkW.transNo hk4⟩
      · have eA : decide (HA 1 = 1) = false := decide_eq_false hA
        rw [eA]
        have HA1 := Lib.hid hA
        clear hA eA
        go_wp2_with fail
        refine (hmx 1 (by decide) _ (hV _ hk4)).mono ?_
        rintro e w5 ⟨rfl, hk5⟩
        go_wp2_with fail
        go_ret
        exact ⟨ret_bool (by rw [HR2.out]; simp [← HHA.out, ← HHB.out, HA1.out]), (hkW.transNo hk4).transNo hk5⟩
    · go_wp2_with fail
      refine (hmn 2 (by decide) _ hbV).mono ?_
      rintro e w4 ⟨rfl, hk4⟩
      go_wp2_with fail
      go_ret
      exact ⟨ret_bool (by rw [HR2.out]; simp [← HHA.out, ← HHB.out]), hkW.transNo hk4⟩
    · go_wp2_with fail
      refine (hmn 3 (by decide) _ hbV).mono ?_
      rintro e w4 ⟨rfl, hk4⟩
      go_wp2_with fail
      go_ret
      exact ⟨ret_bool (by rw [HR2.out]; simp [← HHA.out, ← HHB.out]), hkW.transNo hk4⟩
    · go_wp2_with fail
      refine (hmx 4 (by decide) _ hbV).mono ?_
      rintro e w4 ⟨rfl, hk4⟩
      go_wp2_with fail
      go_ret
      exact ⟨ret_bool (by rw [HR2.out]; simp [← HHA.out, ← HHB.out]), hkW.transNo hk4⟩
    · go_wp2_with fail
      refine (hmx 5 (by decide) _ hbV).mono ?_
      rintro e w4 ⟨rfl, hk4⟩
      go_wp2_with fail
      go_ret
      exact ⟨ret_bool (by rw [HR2.out]; simp [← HHA.out, ← HHB.out]), hkW.transNo hk4⟩
    · have e3 : (op == 0) = false := by simp; omega
      have e4 : (op == 1) = false := by simp; omega
      have e5 : (op == 2) = false := by simp; omega
      have e6 : (op == 3) = false := by simp; omega
      have e7 : (op == 4) = false := by simp; omega
      have e8 : (op == 5) = false := by simp; omega
      have hr : R = false := by rw [HR2.out, if_neg (by omega), if_neg (by omega), if_neg (by omega), if_neg (by omega)]
      have Hr := Lib.hid hr
      clear hr HR2
      go_wp2_with fail
      go_ret
      exact ⟨ret_bool (by rw [Hr.out]), hkW⟩
  · have e2 : (k1 != k2) = true := by simp [h2]
    have hr : R = true := by rw [HR.out, if_neg h1, if_pos h2]
    have Hr := Lib.hid hr
    clear h1 h2 hr
    go_wp2_with fail
    go_ret
    exact ⟨ret_bool (by rw [Hr.out]), hkW⟩
end Go.Proofs.Ytmhmpnbcjcmnnaa
