/- Library functions that package bits calls: Len64, Min, Max (lines of the shelf's templates), Equal, Grow, Concat. -/
import Derived.Test.YthbipcjgpocpaaaGreatNum
import Derived.Test.YthbipcjgpocpaaaGreatLen64
import Derived.Test.YthbipcjgpocpaaaGreatMem
import Derived.Test.YthbipcjgpocpaaaGreatBitmap
import Derived.Lib.Strings
import Derived.Lib.Slices
import Derived.Lib.Small
import Derived.Lib.Walk
import Derived.Lib.BitFns
import Derived.Lib.AppendZeros
import Derived.Deep.LoopGhost
import Derived.Lib.MinMax
namespace Go.Proofs.YthbipcjgpocpaaaGreat
set_option linter.unusedSimpArgs false
set_option linter.unusedVariables false
open Go.RowKit

theorem addr_add0 (ad : Addr) : ad.add 0 = ad := by
  obtain ⟨b, o, s⟩ := ad
  cases s <;> simp [Addr.add]

set_option maxHeartbeats 2000000 in
set_option maxRecDepth 100000 in
theorem smin_any (a : Option Addr) (n c : Nat) (zs : List Int) (w : World) (hs : Sl w a n c (zs.map intV)) (hn : 0 < n) (hbig : n ≤ 140737488351232) :
    Calls Tryz.prog 74 #[.slice a n c] w fun e w' => e = .returned (.int .i64 (Lib.minOf zs)) ∧ w' = w := by
  have hlen : zs.length = n := by simpa using hs.len
  have hv : ∀ i, i < n → (zs.map intV).getD i undef = .int .i64 (zs.getD i 0) := fun i hi => by
    rw [List.getD_eq_getElem?_getD, List.getElem?_map, List.getElem?_eq_getElem (by omega), List.getD_eq_getElem?_getD, List.getElem?_eq_getElem (by omega)]; rfl
  have Hv := Lib.hid hv
  clear hv
  have hix0 := hs.ixz (P := Tryz.prog) Tryz.underlying63 (by kernel_rfl) 0 (i := 0) (by rfl) hn .i64
  have hc0 := hs.at_ hn
  rw [Hv.out 0 hn] at hc0
  have hc0' : w.cell? (a.getD default) = some (.int .i64 (zs.getD 0 0)) := by rw [addr_add0] at hc0; exact hc0
  clear hc0
  go_enter Tryz.func74, Tryz.ntmps74
  go_wp2_with fail
  go_loopg [3, 4] (n - 1) (fun q m i wx => ∃ k : Nat, 0 < k ∧ k ≤ n ∧ q = n - k ∧ i = .int .i64 k ∧ m = .int .i64 (Lib.minOf (zs.take k)) ∧ wx = w)
  case atStart => exact ⟨1, Nat.one_pos, hn, rfl, rfl, by rw [Lib.minOf_one, List.getD_eq_getElem?_getD, List.getElem?_eq_getElem (by omega)]; rfl, rfl⟩
  case round =>
    obtain ⟨k, hk0, hk, hq, rfl, rfl, rfl⟩ := hrel
    have Hq := Lib.hid hq
    clear hq
    by_cases hlt : k < n
    · have hix := hs.ix (P := Tryz.prog) Tryz.underlying63 (by kernel_rfl) hlt .i64
      have hc := hs.at_ hlt
      rw [Hv.out k hlt] at hc
      have hst := Lib.minOf_step zs k hk0 (by omega)
      have Hst := Lib.hid hst
      clear hst
      go_wp2_with fail
      go_roundg (n - (k + 1))
      case rel => exact ⟨k + 1, by omega, by omega, rfl, by go_num, by rw [Hst.out, List.getD_eq_getElem?_getD, List.getElem?_eq_getElem (by omega)]; rfl, rfl⟩
      case measure => have := Hq.out; omega
    · obtain rfl : k = n := by omega
      go_wp2_with fail
      go_ret
      exact ⟨by rw [List.take_of_length_le (by omega)]; rfl, rfl⟩

set_option maxHeartbeats 2000000 in
set_option maxRecDepth 100000 in
theorem smax_any (a : Option Addr) (n c : Nat) (zs : List Int) (w : World) (hs : Sl w a n c (zs.map intV)) (hn : 0 < n) (hbig : n ≤ 140737488351232) :
    Calls Tryz.prog 76 #[.slice a n c] w fun e w' => e = .returned (.int .i64 (Lib.maxOf zs)) ∧ w' = w := by
  have hlen : zs.length = n := by simpa using hs.len
  have hv : ∀ i, i < n → (zs.map intV).getD i undef = .int .i64 (zs.getD i 0) := fun i hi => by
    rw [List.getD_eq_getElem?_getD, List.getElem?_map, List.getElem?_eq_getElem (by omega), List.getD_eq_getElem?_getD, List.getElem?_eq_getElem (by omega)]; rfl
  have Hv := Lib.hid hv
  clear hv
  have hix0 := hs.ixz (P := Tryz.prog) Tryz.underlying63 (by kernel_rfl) 0 (i := 0) (by rfl) hn .i64
  have hc0 := hs.at_ hn
  rw [Hv.out 0 hn] at hc0
  have hc0' : w.cell? (a.getD default) = some (.int .i64 (zs.getD 0 0)) := by rw [addr_add0] at hc0; exact hc0
  clear hc0
  go_enter Tryz.func76, Tryz.ntmps76
  go_wp2_with fail
  go_loopg [3, 4] (n - 1) (fun q m i wx => ∃ k : Nat, 0 < k ∧ k ≤ n ∧ q = n - k ∧ i = .int .i64 k ∧ m = .int .i64 (Lib.maxOf (zs.take k)) ∧ wx = w)
  case atStart => exact ⟨1, Nat.one_pos, hn, rfl, rfl, by rw [Lib.maxOf_one, List.getD_eq_getElem?_getD, List.getElem?_eq_getElem (by omega)]; rfl, rfl⟩
  case round =>
    obtain ⟨k, hk0, hk, hq, rfl, rfl, rfl⟩ := hrel
    have Hq := Lib.hid hq
    clear hq
    by_cases hlt : k < n
    · have hix := hs.ix (P := Tryz.prog) Tryz.underlying63 (by kernel_rfl) hlt .i64
      have hc := hs.at_ hlt
      rw [Hv.out k hlt] at hc
      have hst := Lib.maxOf_step zs k hk0 (by omega)
      have Hst := Lib.hid hst
      clear hst
      go_wp2_with fail
      go_roundg (n - (k + 1))
      case rel => exact ⟨k + 1, by omega, by omega, rfl, by go_num, by rw [Hst.out, List.getD_eq_getElem?_getD, List.getElem?_eq_getElem (by omega)]; rfl, rfl⟩
      case measure => have := Hq.out; omega
    · obtain rfl : k = n := by omega
      go_wp2_with fail
      go_ret
      exact ⟨by rw [List.take_of_length_le (by omega)]; rfl, rfl⟩

set_option maxRecDepth 100000 in
set_option maxHeartbeats 2000000 in
theorem beq_any (a : Option Addr) (n c : Nat) (l : List UInt8) (a' : Option Addr) (n' c' : Nat) (l' : List UInt8) (w : World) (hs : Sl w a n c (l.map byteV)) (hs' : Sl w a' n' c' (l'.map byteV))
    (hn : n ≤ 140737488355328) (hn' : n' ≤ 140737488355328) :
    Calls Tryz.prog 16 #[.slice a n c, .slice a' n' c'] w fun e w' => e = .returned (.bool (decide (l = l'))) ∧ Keeps No w w' := by
  have hlen : l.length = n := by simpa using hs.len
  have hlen' : l'.length = n' := by simpa using hs'.len
  by_cases hnn : n = n'
  · subst hnn
    go_enter Tryz.func16, Tryz.ntmps16
    go_wp2_with fail
    go_loopg [13] n (fun q i wr => ∃ j : Nat, j ≤ n ∧ q = n - j ∧ i = .int .i64 j ∧ l.take j = l'.take j ∧ Keeps No w wr)
    case atStart => exact ⟨0, Nat.zero_le _, rfl, rfl, rfl, Keeps.refl _ _⟩
    case round =>
      obtain ⟨j, hj, hq, rfl, hsame, hkr⟩ := hrel
      have Hs := Lib.hid hsame
      have Hq := Lib.hid hq
      clear hsame hq
      by_cases hlt : j < n
      · have hjl : j < l.length := by omega
        have hjl' : j < l'.length := by omega
        have hix := hs.ix (P := Tryz.prog) Tryz.underlying22 (by kernel_rfl) hlt .i64
        have hc := (hs.kept hkr).at_ hlt
        have hix' := hs'.ix (P := Tryz.prog) Tryz.underlying22 (by kernel_rfl) hlt .i64
        have hc' := (hs'.kept hkr).at_ hlt
        obtain ⟨t, ht⟩ : ∃ t, t = l[j] := ⟨_, rfl⟩
        obtain ⟨t', ht'⟩ : ∃ t, t = l'[j] := ⟨_, rfl⟩
        have hb : (l.map byteV).getD j undef = .int .u8 (t.toNat : Int) := by rw [ht]; simp [hjl, byteV]
        have hb' : (l'.map byteV).getD j undef = .int .u8 (t'.toNat : Int) := by rw [ht']; simp [hjl', byteV]
        rw [hb] at hc
        rw [hb'] at hc'
        have Ht := Lib.hid ht
        have Ht' := Lib.hid ht'
        clear hb hb' ht ht'
        by_cases htt : t = t'
        · subst htt
          have hne : ((t.toNat : Int) != (t.toNat : Int)) = false := by simp
          go_wp2_with fail
          go_quiet (fail)
          go_wp2_with fail
          go_roundg (n - (j + 1))
          case rel => exact ⟨j + 1, by omega, rfl, by go_num, by rw [List.take_succ_eq_append_getElem hjl, List.take_succ_eq_append_getElem hjl', Hs.out, ← Ht.out, ← Ht'.out], hkr.drewN _⟩
          case measure => have := Hq.out; omega
        · have hne : ((t.toNat : Int) != (t'.toNat : Int)) = true := by rw [bne_iff_ne]; intro h; exact htt (UInt8.toNat_inj.1 (by omega))
          have Htt := Lib.hid htt
          clear htt
          go_wp2_with fail
          go_quiet (fail)
          go_wp2_with fail
          go_ret
          exact ⟨ret_bool (by symm; rw [decide_eq_false_iff_not]; intro h; subst h; rw [← Ht'.out] at Ht; exact Htt.out Ht.out), hkr.drewN _⟩
      · obtain rfl : n = j := by omega
        have hll : l = l' := by have := Hs.out; rwa [List.take_of_length_le (by omega), List.take_of_length_le (by omega)] at this
        have Hll := Lib.hid hll
        clear hll
        go_wp2_with fail
        go_ret
        exact ⟨ret_bool (by simp [Hll.out]), hkr⟩
  · have hll : ¬ l = l' := by intro h; rw [h] at hlen; omega
    have Hll := Lib.hid hll
    have hb : ((n : Int) != (n' : Int)) = true := by rw [bne_iff_ne]; omega
    clear hll
    go_enter Tryz.func16, Tryz.ntmps16
    go_wp2_with fail
    go_ret
    exact ⟨ret_bool (by simp [Hll.out]), Keeps.refl _ _⟩

theorem grown0 (w : World) (arr : Array Value) (e : TypeId) (G : Nat) (h : arr.size = G) (hG : G ≤ maxLen) :
    ((w.alloc (.cells arr e)).drew).ownsRow w.heap.size e 1 (.slice (some ⟨w.heap.size, 0, none⟩) 0 G) 0 [] := by
  refine ⟨rfl, .inr ⟨w.heap.size, G, arr, rfl, Nat.le_refl _, ?_, Nat.zero_le _, hG, by omega, by simp⟩⟩
  show (w.heap.push _)[w.heap.size]? = some _
  simp

set_option maxRecDepth 100000 in
set_option maxHeartbeats 2000000 in
theorem grow_nil (n : Nat) (w : World) (hn : n ≤ 140737488351232) :
    Calls Tryz.prog 56 #[.slice none 0 0, .int .i64 n] w fun e w' => ∃ v, e = .returned v ∧ w'.ownsRow w.heap.size 5 1 v 0 [] ∧ Keeps No w w' := by
  obtain ⟨i0, hi, hz0, hz1, hz2⟩ := info_parts ones_info
  go_enter Tryz.func56, Tryz.ntmps56
  rcases Nat.eq_zero_or_pos n with h0 | h0
  · subst h0
    go_wp2_with fail
    go_ret
    exact ⟨_, rfl, World.ownsRow_nil _ _ _ _, Keeps.refl _ _⟩
  · have hrun := Lib.run_append_nil_zeros (P := Tryz.prog) w 22 3 22 5 i0 (.int .u8 0) .i64 .i64 Tryz.underlying22 Tryz.underlying3 hi hz0 n h0 (by rw [hz1]; decide) (by omega) (by rw [hz2]; omega)
    have Hrun := Lib.hid hrun
    clear hrun
    go_wp2_with (at_builtin; refine Lib.wpList_append_run _ rfl _ _ _ _ rfl _ _ rfl rfl _ _ Hrun.out ?_)
    have hcap : n ≤ grownCap w n 0 5 := grownCap_ge _ _ _ _
    have hmx : grownCap w n 0 5 ≤ maxLen := grownCap_le_maxLen _ _ _ _ (by unfold maxLen; omega)
    generalize hG : grownCap w n 0 5 = G at hcap hmx ⊢
    clear hG Hrun
    go_wp2_with fail
    go_ret
    exact ⟨_, rfl, grown0 w _ _ G (by simp [size_zeroCells]; omega) hmx, ((Keeps.refl No w).alloc _).drew⟩

set_option maxRecDepth 100000 in
set_option maxHeartbeats 2000000 in
theorem concat_any (va : Option Addr) (vc : Nat) (a : Option Addr) (n c : Nat) (l : List UInt8) (a' : Option Addr) (n' c' : Nat) (l' : List UInt8) (w : World)
    (hv : Sl w va 2 vc [.slice a n c, .slice a' n' c']) (hs : Sl w a n c (l.map byteV)) (hs' : Sl w a' n' c' (l'.map byteV)) (hn : n ≤ 1000000000) (hn' : n' ≤ 1000000000) :
    Calls Tryz.prog 25 #[.slice va 2 vc] w fun e w' => ∃ v, e = .returned v ∧ w'.ownsRow w.heap.size 5 1 v (n + n') ((l ++ l').map byteV) ∧ Keeps No w w' := by
  have hlen : l.length = n := by simpa using hs.len
  have hlen' : l'.length = n' := by simpa using hs'.len
  have Hlen := Lib.hid hlen
  have Hlen' := Lib.hid hlen'
  clear hlen hlen'
  have hix0 := hv.ixz (P := Tryz.prog) Tryz.underlying85 (by kernel_rfl) 0 (i := 0) (by rfl) (show 0 < 2 by decide) .i64
  have hix1 := hv.ixz (P := Tryz.prog) Tryz.underlying85 (by kernel_rfl) 1 (i := 1) (by rfl) (show 1 < 2 by decide) .i64
  have hc0 : w.cell? (va.getD default) = some (.slice a n c) := by have := hv.at_ (show 0 < 2 by decide); rw [addr_add0] at this; exact this
  have hc1 : w.cell? ((va.getD default).add 1) = some (.slice a' n' c') := hv.at_ (show 1 < 2 by decide)
  have hb1 : 0 < 2 → ((va.getD default).add 1).block = (va.getD default).block := fun _ => Sl.block_add _ _
  generalize hp1 : (va.getD default).add 1 = p1 at hix1 hc1 hb1
  clear hp1
  have Hb1 := Lib.hid hb1
  clear hb1
  generalize hB : w.heap.size = B
  have hBl : ∀ {x : Option Addr} {k c : Nat} {xs : List Value}, Sl w x k c xs → 0 < k → (x.getD default).block < B := fun h hk => by rw [← hB]; exact h.lt hk
  have HB := Lib.hid hB
  clear hB
  go_enter Tryz.func25, Tryz.ntmps25
  go_wp2_with fail
  go_loopg [3, 11] 2 (fun q z i wx => wx = w ∧ ((q = 2 ∧ i = .int .i64 0 ∧ z = .int .i64 0) ∨ (q = 1 ∧ i = .int .i64 1 ∧ z = .int .i64 (n : Int)) ∨ (q = 0 ∧ i = .int .i64 2 ∧ z = .int .i64 ((n + n' : Nat) : Int))))
  case atStart => exact ⟨rfl, .inl ⟨rfl, rfl, rfl⟩⟩
  case round =>
    obtain ⟨rfl, ⟨hq, rfl, rfl⟩ | ⟨hq, rfl, rfl⟩ | ⟨hq, rfl, rfl⟩⟩ := hrel
    · have Hq := Lib.hid hq
      clear hq
      go_wp2_with fail
      go_roundg 1
      case rel => exact ⟨rfl, .inr (.inl ⟨rfl, rfl, by go_num⟩)⟩
      case measure => have := Hq.out; omega
    · have Hq := Lib.hid hq
      clear hq
      go_wp2_with fail
      go_roundg 0
      case rel => exact ⟨rfl, .inr (.inr ⟨rfl, rfl, by go_num⟩)⟩
      case measure => have := Hq.out; omega
    · go_wp2_with fail
      refine (grow_nil (n + n') _ (by omega)).mono ?_
      rintro e w1 ⟨v1, rfl, hown1, hk1⟩
      have hs1 := hs.kept hk1
      have hs1' := hs'.kept hk1
      have hc0' := hk1.cell hc0 (not_No _)
      have hc1' := hk1.cell hc1 (not_No _)
      have hz1 := hk1.size
      rw [HB.out] at hown1 hz1
      go_wp2_with fail
      go_loopg [6, 27] 2 (fun q u i wx => Keeps (fun k => B ≤ k) w1 wx ∧ ((q = 2 ∧ i = .int .i64 0 ∧ wx.ownsRow B 5 1 u 0 []) ∨ (q = 1 ∧ i = .int .i64 1 ∧ wx.ownsRow B 5 1 u n (l.map byteV)) ∨ (q = 0 ∧ i = .int .i64 2 ∧ wx.ownsRow B 5 1 u (n + n') ((l ++ l').map byteV))))
      case atStart => exact ⟨Keeps.refl _ _, .inl ⟨rfl, rfl, hown1⟩⟩
      case round =>
        obtain ⟨hkx, ⟨hq, rfl, hown⟩ | ⟨hq, rfl, hown⟩ | ⟨hq, rfl, hown⟩⟩ := hrel
        all_goals
          have Hq := Lib.hid hq
          clear hq
          have hzx := hkx.size
          have hs2 := hs1.keep hkx (fun h => by have := hBl hs h; omega)
          have hs2' := hs1'.keep hkx (fun h => by have := hBl hs' h; omega)
          have hc2 := hkx.cell hc0' (by have := hBl hv (by decide); omega)
          have hc2' := hkx.cell hc1' (by have := hBl hv (by decide); rw [Hb1.out (by decide)]; omega)
        · go_wp2_with (at_builtin; go_loud (refine app_own rfl _ _ 22 rfl B 5 (.int .u8 0) 1 Tryz.underlying22 ones_info rfl (by decide) _ 0 [] rfl hown _ n _ (l.map byteV) rfl hs2 ?h1 ?hb ?hB ?_))
          case h1 => intro u hu; obtain ⟨_, _, rfl⟩ := List.mem_map.1 hu; rfl
          case hb => omega
          case hB => omega
          intro v' w6 hown6 hg6
          go_wp2_with fail
          go_roundg 1
          case rel => exact ⟨hkx.grown hg6 (fun k hk _ => (hown.lt k hk).1), .inr (.inl ⟨rfl, by go_num, by simpa using hown6⟩)⟩
          case measure => have := Hq.out; omega
        · go_wp2_with (at_builtin; go_loud (refine app_own rfl _ _ 22 rfl B 5 (.int .u8 0) 1 Tryz.underlying22 ones_info rfl (by decide) _ n (l.map byteV) rfl hown _ n' _ (l'.map byteV) rfl hs2' ?h1 ?hb ?hB ?_))
          case h1 => intro u hu; obtain ⟨_, _, rfl⟩ := List.mem_map.1 hu; rfl
          case hb => omega
          case hB => omega
          intro v' w6 hown6 hg6
          go_wp2_with fail
          go_roundg 0
          case rel => exact ⟨hkx.grown hg6 (fun k hk _ => (hown.lt k hk).1), .inr (.inr ⟨rfl, by go_num, by rw [List.map_append]; exact hown6⟩)⟩
          case measure => have := Hq.out; omega
        · go_wp2_with fail
          go_ret
          exact ⟨_, rfl, hown, hk1.trans hkx (fun i hi h => by have := HB.out; omega)⟩
end Go.Proofs.YthbipcjgpocpaaaGreat
