/- The walk of the law PackWrites. -/
import Derived.Test.YtkmioiakpjiokaaLawOneF
import Derived.Test.YtkmioiakpjiokaaRefPack
import Derived.Lib.MinMax
namespace Go.Proofs.Ytkmioiakpjiokaa
open Go.RowKit
set_option linter.unusedSimpArgs false
set_option linter.unusedVariables false

set_option maxRecDepth 100000 in
set_option maxHeartbeats 4000000 in
theorem packWrites_any (a : Option Addr) (m c : Nat) (b : List UInt8) (n : Int) (s : ByteArray) (w : World) (hs : Sl w a m c (b.map byteV)) (hm : m ≤ 140737488351232) (hn : (Lit.int .i64 n).wf = true) (hz : s.size ≤ 140737488351232) :
    Calls Try.prog 3 #[.slice a m c, .int .i64 n, .string s] w fun e w' => e = .returned (.bool true) ∧ Keeps No w w' := by
  obtain ⟨l, rfl⟩ : ∃ l : List UInt8, s = ⟨l.toArray⟩ := ⟨s.data.toList, by cases s; rfl⟩
  have hsz : (⟨l.toArray⟩ : ByteArray).size = l.length := by simp [ByteArray.size]
  rw [hsz] at hz
  have hlen : b.length = m := by simpa using hs.len
  have hw := wf_i64_iff hn
  obtain ⟨un, hun⟩ : ∃ un : Nat, un = (n % 18446744073709551616).toNat := ⟨_, rfl⟩
  have hunw : IntKind.u64.wrap n = (un : Int) := by rw [IntKind.wrap_u64]; omega
  have hun64 : un < 18446744073709551616 := by omega
  have hf64 := fold_lt hw
  have hlu := nat7_len64 un hun64
  have hlf := nat7_len64 (fold n) hf64
  have hll := nat7_len64 l.length (by omega)
  have Hun := Lib.hid hun64
  have Hf := Lib.hid hf64
  have Hn := Lib.hid hn
  have Hlen := Lib.hid hlen
  clear hw hun hun64 hf64 hn hlen
  go_enter Try.func3, Try.ntmps3
  go_wp2_with fail
  refine (first01_any _).mono ?_
  rintro e w1 ⟨rfl, hk1⟩
  by_cases hbig : m ≤ 2000 ∧ l.length ≤ 2000
  case neg =>
    have hgt : (2000 : Int) < max (m : Int) (l.length : Int) := by omega
    go_wp2_with fail
    go_ret
    exact ⟨rfl, hk1⟩
  obtain ⟨hb1, hb2⟩ := hbig
  have hgt : ¬ (2000 : Int) < max (m : Int) (l.length : Int) := by omega
  have hs1 := hs.kept hk1
  go_wp2_with (at_builtin; refine app_ownS rfl _ _ 22 rfl w1.heap.size 5 (.int .u8 0) 1 Try.underlying22 byte_info rfl (by decide) _ 0 [] rfl (owns_lit0 w1 _ _ (Nat.le_refl _)) (fun h => by cases h) _ _ _ _ rfl (hs1.kept ((Keeps.refl _ _).alloc _)) ?h1 ?hb ?hB2 ?_)
  case h1 => exact byteV_one b
  case hb => omega
  case hB2 => simp
  intro g c2 w2 hown2 hg2 hgb hgl
  have hk2 : Keeps No w1 w2 := ((Keeps.refl No w1).alloc _).grown hg2 (fun k hk hlt => absurd hlt (by simp [Value.ownBlock] at hk; omega))
  obtain ⟨a2, c2', he2, hs2, _⟩ := Sl.ofOwn hown2
  obtain ⟨rfl, rfl⟩ : some ⟨g, 0, none⟩ = a2 ∧ c2 = c2' := by
    simp only [Value.slice.injEq] at he2
    exact ⟨he2.1, he2.2.2⟩
  go_wp2_with fail
  refine (natural_any _ _ _ _ _ _ hs2 (by omega) Hun.out).mono ?_
  rintro e w3 ⟨v3, rfl, hown3, hk3⟩
  obtain ⟨a3, c3, rfl, hs3, hb3⟩ := Sl.ofOwn hown3
  go_wp2_with fail
  refine (number_any _ _ _ _ _ _ (hs2.kept hk3) (by omega) Hn.out).mono ?_
  rintro e w4 ⟨v4, rfl, hown4, hk4⟩
  obtain ⟨a4, c4, rfl, hs4, hb4⟩ := Sl.ofOwn hown4
  go_wp2_with fail
  refine (text_any _ _ _ _ _ _ ((hs2.kept hk3).kept hk4) (by rw [hsz]; omega)).mono ?_
  rw [hsz]
  rintro e w5 ⟨v5, rfl, hown5, hk5⟩
  obtain ⟨a5, c5, rfl, hs5, hb5⟩ := Sl.ofOwn hown5
  clear hown3 hown4 hown5
  have hk25 : Keeps No w2 w5 := hk3.transNo (hk4.transNo hk5)
  have hown := hk25.own hown2 (fun _ _ => not_No _)
  clear hown2 hg2
  have z2 := hk2.size
  have z3 := hk3.size
  have z4 := hk4.size
  go_wp2_with fail
  go_loopw [36, 11] (fun i _ wr => ∃ (j : Nat) (d : List UInt8), j ≤ m ∧ d.length = m ∧ i = .int .i64 j ∧ wr.ownsRow w1.heap.size 5 1 (.slice (some ⟨g, 0, none⟩) m c2) m (d.map byteV) ∧ Keeps (fun k => k = g) w5 wr)
    (fun i _ _ => m - (intOf i).toNat)
  case atStart => exact ⟨0, b, Nat.zero_le _, Hlen.out, rfl, by simpa using hown, Keeps.refl _ _⟩
  case round =>
    obtain ⟨j, d, hj, hd, rfl, hownr, hkr⟩ := hrel
    by_cases hlt : j < m
    · have hjd : j < d.length := by omega
      have hcell := hownr.cellAt j (by omega)
      have hfr := hownr.frozenAt j
      rw [List.getElem?_map, List.getElem?_eq_getElem hjd] at hcell
      obtain ⟨x, hx⟩ : ∃ x, x = d[j] := ⟨_, rfl⟩
      simp only [Option.map_some, ← hx, byteV] at hcell
      have Hd := Lib.hid hd
      clear hx hd
      go_wp2_with fail
      go_roundw
      case rel =>
        refine ⟨j + 1, d.set j (x ^^^ 255), by omega, by rw [List.length_set]; exact Hd.out, by go_num, ?_, hkr.trans (Keeps.set _ g j _) (fun _ _ h => h)⟩
        rw [List.map_set, show byteV (x ^^^ 255) = .int .u8 (bits .xor .u8 (x.toNat : Int) 255) from by unfold byteV; rw [← xor_u8]; rfl]
        exact (hownr.stored j _).1
      case measure => simp [intOf]; omega
    · obtain rfl : m = j := by omega
      obtain ⟨w6, hw6⟩ : ∃ w6, w6 = wr := ⟨_, rfl⟩
      subst hw6
      have hg5 : g < w5.heap.size := by have := hk5.size; omega
      have hx3 := ((hs3.kept hk4).kept hk5).keep hkr (fun hp => by obtain ⟨k, hk', hk'', _⟩ := hb3 _ (hs3.isSome hp); rw [hk']; show ¬ k = g; omega)
      have hx4 := (hs4.kept hk5).keep hkr (fun hp => by obtain ⟨k, hk', hk'', _⟩ := hb4 _ (hs4.isSome hp); rw [hk']; show ¬ k = g; omega)
      have hx5 := hs5.keep hkr (fun hp => by obtain ⟨k, hk', hk'', _⟩ := hb5 _ (hs5.isSome hp); rw [hk']; show ¬ k = g; omega)
      have hxb := ((hs1.kept hk2).kept hk25).keep hkr (fun hp => by have := hs1.lt hp; intro h; omega)
      have hE3 := strK hx3
      have hE4 := strK hx4
      have hE5 := strK hx5
      have hEb := strK hxb w6 (Keeps.refl _ _)
      have hwl : IntKind.u64.wrap (l.length : Int) = (l.length : Int) := by rw [IntKind.wrap_u64]; omega
      have hA1 := fun wx => run_add_bytes (P := Try.prog) wx b (nat7 un) (by rw [Hlen.out]; omega)
      have hA2 := fun wx => run_add_bytes (P := Try.prog) wx b (nat7 (fold n)) (by rw [Hlen.out]; omega)
      have hA3 := fun wx => run_add_bytes (P := Try.prog) wx b (nat7 l.length) (by rw [Hlen.out]; omega)
      have hA4 := fun wx => run_add_bytes (P := Try.prog) wx (b ++ nat7 l.length) l (by rw [List.length_append, Hlen.out]; omega)
      have hkall : Keeps No w w6 := hk1.transNo ((hk2.transNo hk25).trans hkr (fun k hk h => by omega))
      go_wp2_with fail
      refine wp_region_held_drew (S := fun wx => Keeps No w6 wx) (by kernel_rfl) (Keeps.refl _ _).drew (fun hS => ?_)
      refine tk (i := 0) (oi := ⟨some 48, _, _, _, _, _⟩) (v := ?_) rfl (by kernel_rfl) (fun _ _ _ h => h) (by assumption) (by rfl) (fun w hSw => ?_) ?_; rotate_left; (focus (first | (go_simp; done) | (go_simp; with_reducible rfl))); simp only [Act.put, List.setIfInBounds_toArray, List.set_cons_zero, List.set_cons_succ]
      refine tk (i := 1) (oi := ⟨some 49, _, _, _, _, _⟩) (v := ?_) rfl (by kernel_rfl) (fun _ _ _ h => h) (by assumption) (by rfl) (fun w hSw => ?_) ?_; rotate_left; (focus (first | (go_simp; done) | (go_simp; with_reducible rfl))); simp only [Act.put, List.setIfInBounds_toArray, List.set_cons_zero, List.set_cons_succ]
      refine tk (i := 2) (oi := ⟨some 50, _, _, _, _, _⟩) (v := ?_) rfl (by kernel_rfl) (fun _ _ _ h => h) (by assumption) (by rfl) (fun w hSw => ?_) ?_; rotate_left; (focus (first | (go_simp; done) | (go_simp; with_reducible rfl))); simp only [Act.put, List.setIfInBounds_toArray, List.set_cons_zero, List.set_cons_succ]
      refine tk (i := 3) (oi := ⟨some 51, _, _, _, _, _⟩) (v := ?_) rfl (by kernel_rfl) (fun _ _ _ h => h) (by assumption) (by rfl) (fun w hSw => ?_) ?_; rotate_left; (focus (first | (go_simp; done) | (go_simp; with_reducible rfl))); simp only [Act.put, List.setIfInBounds_toArray, List.set_cons_zero, List.set_cons_succ]
      refine tk (i := 4) (oi := ⟨some 52, _, _, _, _, _⟩) (v := ?_) rfl (by kernel_rfl) (fun _ _ _ h => h) (by assumption) (by rfl) (fun w hSw => ?_) ?_; rotate_left; (focus (first | (go_simp; done) | (go_simp; with_reducible rfl))); simp only [Act.put, List.setIfInBounds_toArray, List.set_cons_zero, List.set_cons_succ]
      refine alone (i := 5) (oi := ⟨some 53, _, _, _, _, _⟩) rfl (by kernel_rfl) (by rfl) (fun K hK => ?_); go_simp
      -- ARM 1: Op.call { callee := Callee.value (Operand.func 12), args := #[Operand.tmp 52], argTypes := #[25] }
      refine (refNat_any un _ Hun.out).mono ?_
      rintro e y1 ⟨v1, rfl, hown1, hk1⟩
      obtain ⟨a1, c1, rfl, hs1, _⟩ := Sl.ofOwn hown1
      clear hown1
      go_simp
      have hE1 := strK hs1
      refine hK.out (fun wx => (Keeps No w6 wx ∧ Keeps No y1 wx)) _ _ (fun _ hx => hx.1) ⟨hS.transNo hk1, Keeps.refl _ _⟩ ?_
      clear hK K hS
      intro hS
      refine tk (i := 6) (oi := ⟨some 54, _, _, _, _, _⟩) (v := ?_) rfl (by kernel_rfl) (fun _ _ _ h => h) (by assumption) (by rfl) (fun w hSw => ?_) ?_; rotate_left; (focus (first | (go_simp; done) | (go_simp; with_reducible rfl))); simp only [Act.put, List.setIfInBounds_toArray, List.set_cons_zero, List.set_cons_succ]
      refine tk (i := 7) (oi := ⟨some 55, _, _, _, _, _⟩) (v := ?_) rfl (by kernel_rfl) (fun _ _ _ h => h) (by assumption) (by rfl) (fun w hSw => ?_) ?_; rotate_left; (focus (first | (go_simp; done) | (go_simp; with_reducible rfl))); simp only [Act.put, List.setIfInBounds_toArray, List.set_cons_zero, List.set_cons_succ]
      refine tk (i := 8) (oi := ⟨some 56, _, _, _, _, _⟩) (v := ?_) rfl (by kernel_rfl) (fun _ _ _ h => h) (by assumption) (by rfl) (fun w hSw => ?_) ?_; rotate_left; (focus (first | (go_simp; done) | (go_simp; with_reducible rfl))); simp only [Act.put, List.setIfInBounds_toArray, List.set_cons_zero, List.set_cons_succ]
      refine tk (i := 9) (oi := ⟨some 57, _, _, _, _, _⟩) (v := ?_) rfl (by kernel_rfl) (fun _ _ _ h => h) (by assumption) (by rfl) (fun w hSw => ?_) ?_; rotate_left; (focus (first | (go_simp; done) | (go_simp; with_reducible rfl))); simp only [Act.put, List.setIfInBounds_toArray, List.set_cons_zero, List.set_cons_succ]
      refine tk (i := 10) (oi := ⟨some 58, _, _, _, _, _⟩) (v := ?_) rfl (by kernel_rfl) (fun _ _ _ h => h) (by assumption) (by rfl) (fun w hSw => ?_) ?_; rotate_left; (focus (first | (go_simp; done) | (go_simp; with_reducible rfl))); simp only [Act.put, List.setIfInBounds_toArray, List.set_cons_zero, List.set_cons_succ]
      refine tk (i := 11) (oi := ⟨some 59, _, _, _, _, _⟩) (v := ?_) rfl (by kernel_rfl) (fun _ _ _ h => h) (by assumption) (by rfl) (fun w hSw => ?_) ?_; rotate_left; (focus (first | (go_simp; done) | (go_simp; with_reducible rfl))); simp only [Act.put, List.setIfInBounds_toArray, List.set_cons_zero, List.set_cons_succ]
      refine tk (i := 12) (oi := ⟨some 60, _, _, _, _, _⟩) (v := ?_) rfl (by kernel_rfl) (fun _ _ _ h => h) (by assumption) (by rfl) (fun w hSw => ?_) ?_; rotate_left; (focus (first | (go_simp; done) | (go_simp; with_reducible rfl))); simp only [Act.put, List.setIfInBounds_toArray, List.set_cons_zero, List.set_cons_succ]
      refine tk (i := 13) (oi := ⟨some 61, _, _, _, _, _⟩) (v := ?_) rfl (by kernel_rfl) (fun _ _ _ h => h) (by assumption) (by rfl) (fun w hSw => ?_) ?_; rotate_left; (focus (first | (go_simp; done) | (go_simp; with_reducible rfl))); simp only [Act.put, List.setIfInBounds_toArray, List.set_cons_zero, List.set_cons_succ]
      refine alone (i := 14) (oi := ⟨some 62, _, _, _, _, _⟩) rfl (by kernel_rfl) (by rfl) (fun K hK => ?_); go_simp
      -- ARM 2: Op.call { callee := Callee.value (Operand.func 13), args := #[Operand.tmp 61], argTypes := #[3] }
      refine (folded_any n _ Hn.out).mono ?_
      rintro e wz ⟨rfl, rfl⟩
      go_simp
      refine hK.out (fun wx => (Keeps No w6 wx ∧ Keeps No y1 wx)) _ _ (fun _ hx => hx) hS ?_
      clear hK K hS
      intro hS
      refine alone (i := 15) (oi := ⟨some 63, _, _, _, _, _⟩) rfl (by kernel_rfl) (by rfl) (fun K hK => ?_); go_simp
      -- ARM 3: Op.call { callee := Callee.value (Operand.func 12), args := #[Operand.tmp 62], argTypes := #[25] }
      refine (refNat_any (fold n) _ Hf.out).mono ?_
      rintro e y3 ⟨v3, rfl, hown3, hk3⟩
      obtain ⟨a3, c3, rfl, hs3, _⟩ := Sl.ofOwn hown3
      clear hown3
      go_simp
      have hE3 := strK hs3
      refine hK.out (fun wx => ((Keeps No w6 wx ∧ Keeps No y1 wx) ∧ Keeps No y3 wx)) _ _ (fun _ hx => hx.1) ⟨⟨hS.1.transNo hk3, hS.2.transNo hk3⟩, Keeps.refl _ _⟩ ?_
      clear hK K hS
      intro hS
      refine tk (i := 16) (oi := ⟨some 64, _, _, _, _, _⟩) (v := ?_) rfl (by kernel_rfl) (fun _ _ _ h => h) (by assumption) (by rfl) (fun w hSw => ?_) ?_; rotate_left; (focus (first | (go_simp; done) | (go_simp; with_reducible rfl))); simp only [Act.put, List.setIfInBounds_toArray, List.set_cons_zero, List.set_cons_succ]
      refine tk (i := 17) (oi := ⟨some 65, _, _, _, _, _⟩) (v := ?_) rfl (by kernel_rfl) (fun _ _ _ h => h) (by assumption) (by rfl) (fun w hSw => ?_) ?_; rotate_left; (focus (first | (go_simp; done) | (go_simp; with_reducible rfl))); simp only [Act.put, List.setIfInBounds_toArray, List.set_cons_zero, List.set_cons_succ]
      refine tk (i := 18) (oi := ⟨some 66, _, _, _, _, _⟩) (v := ?_) rfl (by kernel_rfl) (fun _ _ _ h => h) (by assumption) (by rfl) (fun w hSw => ?_) ?_; rotate_left; (focus (first | (go_simp; done) | (go_simp; with_reducible rfl))); simp only [Act.put, List.setIfInBounds_toArray, List.set_cons_zero, List.set_cons_succ]
      refine tk (i := 19) (oi := ⟨some 67, _, _, _, _, _⟩) (v := ?_) rfl (by kernel_rfl) (fun _ _ _ h => h) (by assumption) (by rfl) (fun w hSw => ?_) ?_; rotate_left; (focus (first | (go_simp; done) | (go_simp; with_reducible rfl))); simp only [Act.put, List.setIfInBounds_toArray, List.set_cons_zero, List.set_cons_succ]
      refine tk (i := 20) (oi := ⟨some 68, _, _, _, _, _⟩) (v := ?_) rfl (by kernel_rfl) (fun _ _ _ h => h) (by assumption) (by rfl) (fun w hSw => ?_) ?_; rotate_left; (focus (first | (go_simp; done) | (go_simp; with_reducible rfl))); simp only [Act.put, List.setIfInBounds_toArray, List.set_cons_zero, List.set_cons_succ]
      refine tk (i := 21) (oi := ⟨some 69, _, _, _, _, _⟩) (v := ?_) rfl (by kernel_rfl) (fun _ _ _ h => h) (by assumption) (by rfl) (fun w hSw => ?_) ?_; rotate_left; (focus (first | (go_simp; done) | (go_simp; with_reducible rfl))); simp only [Act.put, List.setIfInBounds_toArray, List.set_cons_zero, List.set_cons_succ]
      refine tk (i := 22) (oi := ⟨some 70, _, _, _, _, _⟩) (v := ?_) rfl (by kernel_rfl) (fun _ _ _ h => h) (by assumption) (by rfl) (fun w hSw => ?_) ?_; rotate_left; (focus (first | (go_simp; done) | (go_simp; with_reducible rfl))); simp only [Act.put, List.setIfInBounds_toArray, List.set_cons_zero, List.set_cons_succ]
      refine tk (i := 23) (oi := ⟨some 71, _, _, _, _, _⟩) (v := ?_) rfl (by kernel_rfl) (fun _ _ _ h => h) (by assumption) (by rfl) (fun w hSw => ?_) ?_; rotate_left; (focus (first | (go_simp; done) | (go_simp; with_reducible rfl))); simp only [Act.put, List.setIfInBounds_toArray, List.set_cons_zero, List.set_cons_succ]
      refine tk (i := 24) (oi := ⟨some 72, _, _, _, _, _⟩) (v := ?_) rfl (by kernel_rfl) (fun _ _ _ h => h) (by assumption) (by rfl) (fun w hSw => ?_) ?_; rotate_left; (focus (first | (go_simp; done) | (go_simp; with_reducible rfl))); simp only [Act.put, List.setIfInBounds_toArray, List.set_cons_zero, List.set_cons_succ]
      refine tk (i := 25) (oi := ⟨some 73, _, _, _, _, _⟩) (v := ?_) rfl (by kernel_rfl) (fun _ _ _ h => h) (by assumption) (by rfl) (fun w hSw => ?_) ?_; rotate_left; (focus (first | (go_simp; done) | (go_simp; with_reducible rfl))); simp only [Act.put, List.setIfInBounds_toArray, List.set_cons_zero, List.set_cons_succ]
      refine tk (i := 26) (oi := ⟨some 74, _, _, _, _, _⟩) (v := ?_) rfl (by kernel_rfl) (fun _ _ _ h => h) (by assumption) (by rfl) (fun w hSw => ?_) ?_; rotate_left; (focus (first | (go_simp; done) | (go_simp; with_reducible rfl))); simp only [Act.put, List.setIfInBounds_toArray, List.set_cons_zero, List.set_cons_succ]
      refine tk (i := 30) (oi := ⟨some 78, _, _, _, _, _⟩) (v := ?_) rfl (by kernel_rfl) (fun _ _ _ h => h) (by assumption) (by rfl) (fun w hSw => ?_) ?_; rotate_left; (focus (first | (go_simp; done) | (go_simp; with_reducible rfl))); simp only [Act.put, List.setIfInBounds_toArray, List.set_cons_zero, List.set_cons_succ]
      refine alone (i := 27) (oi := ⟨some 75, _, _, _, _, _⟩) rfl (by kernel_rfl) (by rfl) (fun K hK => ?_); go_simp
      -- ARM 4: Op.call { callee := Callee.value (Operand.func 12), args := #[Operand.tmp 74], argTypes := #[25] }
      refine (refNat_any l.length _ (by omega)).mono ?_
      rintro e y4 ⟨v4, rfl, hown4, hk4⟩
      obtain ⟨a4, c4, rfl, hs4, _⟩ := Sl.ofOwn hown4
      clear hown4
      go_simp
      have hE4 := strK hs4
      refine hK.out (fun wx => (((Keeps No w6 wx ∧ Keeps No y1 wx) ∧ Keeps No y3 wx) ∧ Keeps No y4 wx)) _ _ (fun _ hx => hx.1) ⟨⟨⟨hS.1.1.transNo hk4, hS.1.2.transNo hk4⟩, hS.2.transNo hk4⟩, Keeps.refl _ _⟩ ?_
      clear hK K hS
      intro hS
      refine tk (i := 28) (oi := ⟨some 76, _, _, _, _, _⟩) (v := ?_) rfl (by kernel_rfl) (fun _ _ _ h => h) (by assumption) (by rfl) (fun w hSw => ?_) ?_; rotate_left; (focus (first | (go_simp; done) | (go_simp; with_reducible rfl))); simp only [Act.put, List.setIfInBounds_toArray, List.set_cons_zero, List.set_cons_succ]
      refine tk (i := 29) (oi := ⟨some 77, _, _, _, _, _⟩) (v := ?_) rfl (by kernel_rfl) (fun _ _ _ h => h) (by assumption) (by rfl) (fun w hSw => ?_) ?_; rotate_left; (focus (first | (go_simp; done) | (go_simp; with_reducible rfl))); simp only [Act.put, List.setIfInBounds_toArray, List.set_cons_zero, List.set_cons_succ]
      refine tk (i := 31) (oi := ⟨some 79, _, _, _, _, _⟩) (v := ?_) rfl (by kernel_rfl) (fun _ _ _ h => h) (by assumption) (by rfl) (fun w hSw => ?_) ?_; rotate_left; (focus (first | (go_simp; done) | (go_simp; with_reducible rfl))); simp only [Act.put, List.setIfInBounds_toArray, List.set_cons_zero, List.set_cons_succ]
      refine tk (i := 32) (oi := ⟨some 80, _, _, _, _, _⟩) (v := ?_) rfl (by kernel_rfl) (fun _ _ _ h => h) (by assumption) (by rfl) (fun w hSw => ?_) ?_; rotate_left; (focus (first | (go_simp; done) | (go_simp; with_reducible rfl))); simp only [Act.put, List.setIfInBounds_toArray, List.set_cons_zero, List.set_cons_succ]
      refine tk (i := 33) (oi := ⟨some 81, _, _, _, _, _⟩) (v := ?_) rfl (by kernel_rfl) (fun _ _ _ h => h) (by assumption) (by rfl) (fun w hSw => ?_) ?_; rotate_left; (focus (first | (go_simp; done) | (go_simp; with_reducible rfl))); simp only [Act.put, List.setIfInBounds_toArray, List.set_cons_zero, List.set_cons_succ]
      refine tk (i := 34) (oi := ⟨some 6, _, _, _, _, _⟩) (v := ?_) rfl (by kernel_rfl) (fun _ _ _ h => h) (by assumption) (by rfl) (fun w hSw => ?_) ?_; rotate_left; (focus (first | (go_simp; done) | (go_simp; with_reducible rfl))); simp only [Act.put, List.setIfInBounds_toArray, List.set_cons_zero, List.set_cons_succ]
      refine wpAnyH_done (by kernel_rfl) ?_ _
      go_wp2_with fail
      go_ret
      exact ⟨ret_bool (by simp), hkall.transNo (hS.1.1.1)⟩
end Go.Proofs.Ytkmioiakpjiokaa
