/- The walk of the statement ZoneParts. -/
import Derived.Test.YtmhmpnbcjcmnnaaLawFifteenB
import Derived.Test.YtmhmpnbcjcmnnaaRowGen
namespace Go.Proofs.Ytmhmpnbcjcmnnaa
open Go.RowKit
set_option linter.unusedSimpArgs false
set_option linter.unusedVariables false

def okIn (v : Va) (x : Va) : Prop := (x.k = v.k ∨ x.k = 0) ∧ rightV x = true
theorem zone_rows (r : Int) (c1 c2 c3 c4 c5 c6 c7 c8 c9 c10 : Value) (w : World) : (Instr.field 39 (.agg #[.int .i64 r, c1, c2, c3, c4, c5, c6, c7, c8, c9, c10]) 0).run Try.prog w = .ok (.int .i64 r) w := by kernel_rfl
set_option maxRecDepth 100000 in
set_option maxHeartbeats 8000000 in
theorem zoneParts_any (a : Option Addr) (n c : Nat) (l : List Va) (a' : Option Addr) (n' c' : Nat) (l' : List Va) (v : Va) (hl : ∀ x ∈ l, x.wf) (hl' : ∀ x ∈ l', x.wf) (hv : v.wf) (hvs : v.s.size ≤ 140737488351232) (w : World) (hs : SlK w 4 a n c (l.map Va.cells)) (hs' : SlK w 4 a' n' c' (l'.map Va.cells)) (hn : n ≤ 140737488351232) (hn' : n' ≤ 140737488351232) :
    Calls Try.prog 9 #[.slice a n c, .slice a' n' c', v.agg] w fun e w' => e = .returned (.bool true) ∧ Keeps No w w' := by
  have hlen : l.length = n := by simpa using hs.len
  have hlen' : l'.length = n' := by simpa using hs'.len
  have Hlen := Lib.hid hlen
  have Hlen' := Lib.hid hlen'
  have hright := fun x (hx : x.wf) wx => refright_any x hx wx
  have HR := Lib.hid hright
  clear hlen hlen' hright
  obtain ⟨V, hV⟩ : ∃ V, V = v := ⟨_, rfl⟩
  have HV := Lib.hid hV
  clear hV
  obtain ⟨vk, vn, vs, vf⟩ := v
  unfold Va.agg
  simp only at hvs ⊢
  go_enter Try.func9, Try.ntmps9
  go_upto_region 1 with fail
  have hbV := heap_alloc_new w (.cells #[.int .i64 vk, .int .i64 vn, .string vs, .int .u64 (vf : Int)] 37)
  have hkV : Keeps No w (w.alloc (.cells #[.int .i64 vk, .int .i64 vn, .string vs, .int .u64 (vf : Int)] 37)) := (Keeps.refl No w).alloc _
  generalize (w.alloc (.cells #[.int .i64 vk, .int .i64 vn, .string vs, .int .u64 (vf : Int)] 37)) = W at hbV hkV ⊢
  go_wp2_with fail
  refine (first15_any _).mono ?_
  rintro e w1 ⟨rfl, hk1⟩
  have hk01 := hkV.transNo hk1
  have hb1 := hk1.blk hbV (not_No _)
  go_wp2_with fail
  refine (long_any a n c l _ (hs.kept hk01) hn).mono ?_
  rintro e w2 ⟨rfl, hk2⟩
  have hk02 := hk01.transNo hk2
  have hb2 := hk2.blk hb1 (not_No _)
  cases hb : longB l
  case true =>
    clear hb
    go_wp2_with fail
    go_ret
    exact ⟨rfl, hk02⟩
  have hsm := longB_small hb
  clear hb
  go_wp2_with fail
  refine (long_any a' n' c' l' _ (hs'.kept hk02) hn').mono ?_
  rintro e w3 ⟨rfl, hk3⟩
  have hk03 := hk02.transNo hk3
  have hb3 := hk3.blk hb2 (not_No _)
  obtain ⟨a0, a1, a2, a3⟩ := row4 hb3
  cases hb : longB l'
  case true =>
    clear hb
    go_wp2_with fail
    go_ret
    exact ⟨rfl, hk03⟩
  have hsm' := longB_small hb
  clear hb
  by_cases hbig : vs.size ≤ 200
  case neg =>
    go_wp2_with fail
    go_ret
    exact ⟨rfl, hk03⟩
  have hn200 : n ≤ 200 := by have := hsm.1; have := Hlen.out; omega
  have hn200' : n' ≤ 200 := by have := hsm'.1; have := Hlen'.out; omega
  have HSM := Lib.hid hsm
  have HSM' := Lib.hid hsm'
  clear hsm hsm' hk1 hk2 hk3 hb1 hb2 hk01 hk02 hkV hbV
  go_upto_region 6 with fail
  have hbS := heap_alloc_new w3 (.cells #[.slice a n c, .slice a' n' c'] 32)
  have hkS : Keeps No w3 (w3.alloc (.cells #[.slice a n c, .slice a' n' c'] 32)) := (Keeps.refl No w3).alloc _
  generalize (w3.alloc (.cells #[.slice a n c, .slice a' n' c'] 32)) = w4 at hbS hkS ⊢
  have hb4 := hkS.blk hb3 (not_No _)
  have hk04 := hk03.transNo hkS
  clear a0 a1 a2 a3
  go_loopg [33] 2 (fun q v33 wr => ∃ i : Nat, v33 = .int .i64 (i : Int) ∧ i ≤ 2 ∧ q = 2 - i ∧ (0 < i → ∀ x ∈ l, okIn V x) ∧ (1 < i → ∀ x ∈ l', okIn V x) ∧ Keeps No w4 wr)
  case atStart => exact ⟨0, rfl, Nat.zero_le _, rfl, fun h => by omega, fun h => by omega, Keeps.refl _ _⟩
  case round =>
    obtain ⟨i, rfl, hi, hq, ho1, ho2, hkr⟩ := hrel
    have Hq := Lib.hid hq
    have Ho1 := Lib.hid ho1
    have Ho2 := Lib.hid ho2
    clear hq ho1 ho2
    rcases (show i = 0 ∨ i = 1 ∨ i = 2 by omega) with rfl | rfl | rfl
    · skip
      have hcell := cell_of_row wr _ 0 _ _ (0, 0) (hkr.blk hbS (not_No _))
      have hks := hkS.transNo hkr
      go_wp2_with fail
      go_loopg [39] n (fun q v39 wx => ∃ j : Nat, v39 = .int .i64 (j : Int) ∧ j ≤ n ∧ q = n - j ∧ (∀ i (h : i < l.length), i < j → okIn V l[i]) ∧ Keeps No w4 wx)
      case atStart => exact ⟨0, rfl, Nat.zero_le _, rfl, fun i h hi => by omega, hkr⟩
      case round =>
        obtain ⟨j, rfl, hj, hq, hall, hkx⟩ := hrel
        have Hqj := Lib.hid hq
        have Hall := Lib.hid hall
        clear hq hall
        by_cases hlt : j < n
        · have hjl : j < l.length := by rw [Hlen.out]; exact hlt
          obtain ⟨x, hx⟩ : ∃ x, x = l[j] := ⟨_, rfl⟩
          have hxw : x.wf := by rw [hx]; exact hl _ (List.getElem_mem hjl)
          have hsx := hs.kept ((hk03.transNo hkS).transNo hkx)
          have hix := hsx.ix (P := Try.prog) Try.underlying32 (by kernel_rfl) hlt .i64
          have hld := (hsx.load (P := Try.prog) Try.underlying37 rfl (by kernel_rfl) hlt).1
          have hb : (l.map Va.cells).getD j [] = x.cells := by rw [hx]; simp [hjl]
          rw [hb] at hld
          have hrx := HR.out x hxw
          have hok : ((x.k = vk ∨ x.k = 0) ∧ rightV x = true) → okIn V l[j] := fun h => by rw [← hx]; unfold okIn; rw [HV.out]; exact h
          obtain ⟨rb, hrb⟩ : ∃ rb, rb = rightV x := ⟨_, rfl⟩
          rw [← hrb] at hrx hok
          have Hok := Lib.hid hok
          clear hx hb hrb hok hxw
          obtain ⟨k, nn, s, f⟩ := x
          unfold Va.cells at hld
          unfold Va.agg at hrx
          simp only at hld hrx Hok
          go_upto_region 11 with (refine wpList_loadV rfl 37 _ rfl _ rfl _ hld ?_)
          have hbX := heap_alloc_new wr (.cells #[.int .i64 k, .int .i64 nn, .string s, .int .u64 (f : Int)] 37)
          have hkX : Keeps No wr (wr.alloc (.cells #[.int .i64 k, .int .i64 nn, .string s, .int .u64 (f : Int)] 37)) := (Keeps.refl No wr).alloc _
          generalize (wr.alloc (.cells #[.int .i64 k, .int .i64 nn, .string s, .int .u64 (f : Int)] 37)) = w6 at hbX hkX ⊢
          have hk46 := hkx.transNo hkX
          have hk06 := hk04.transNo hk46
          obtain ⟨a0, a1, a2, a3⟩ := row4 hbX
          obtain ⟨b0, b1, b2, b3⟩ := row4 (hk46.blk hb4 (not_No _))
          by_cases hkk : k = vk ∨ k = 0
          case neg =>
            have e1 : (k != vk) = true := by simp; omega
            have e2 : (k != 0) = true := by simp; omega
            clear hkk
            go_wp2_with fail
            go_ret
            exact ⟨rfl, hk06⟩
          have hd : (k != vk) = false ∨ ((k != vk) = true ∧ (k != 0) = false) := by
            by_cases h : k = vk
            · left; simp [h]
            · right; refine ⟨by simp [h], by simp; omega⟩
          have Hkk := Lib.hid hkk
          clear hkk
          rcases hd with hd | ⟨hd, hd2⟩
          all_goals
            go_wp2_with fail
            refine (hrx _).mono ?_
            rintro e w7 ⟨rfl, hk7⟩
            cases rb
            · go_wp2_with fail
              go_ret
              exact ⟨rfl, hk06.transNo hk7⟩
            · go_wp2_with fail
              go_roundg (n - (j + 1))
              case rel =>
                refine ⟨j + 1, by go_num, by omega, rfl, fun i h hi => ?_, hk46.transNo hk7⟩
                rcases Nat.lt_or_ge i j with h' | h'
                · exact Hall.out i h h'
                · obtain rfl : i = j := by omega
                  exact Hok.out ⟨Hkk.out, by first | trivial | rfl⟩
              case measure => have := Hqj.out; omega
        · obtain rfl : j = n := by omega
          have hallL : ∀ x ∈ l, okIn V x := fun x hx => by
            obtain ⟨i, hi, rfl⟩ := List.mem_iff_getElem.1 hx
            exact Hall.out i hi (by have := Hlen.out; omega)
          have HallL := Lib.hid hallL
          clear hallL
          go_wp2_with fail
          go_roundg 1
          case measure => have := Hq.out; omega
          case rel => exact ⟨1, rfl, by omega, rfl, fun _ => HallL.out, fun h => by omega, hkx⟩
    · skip
      have hcell := cell_of_row wr _ 1 _ _ (0, 0) (hkr.blk hbS (not_No _))
      have hks := hkS.transNo hkr
      go_wp2_with fail
      go_loopg [39] n' (fun q v39 wx => ∃ j : Nat, v39 = .int .i64 (j : Int) ∧ j ≤ n' ∧ q = n' - j ∧ (∀ i (h : i < l'.length), i < j → okIn V l'[i]) ∧ Keeps No w4 wx)
      case atStart => exact ⟨0, rfl, Nat.zero_le _, rfl, fun i h hi => by omega, hkr⟩
      case round =>
        obtain ⟨j, rfl, hj, hq, hall, hkx⟩ := hrel
        have Hqj := Lib.hid hq
        have Hall := Lib.hid hall
        clear hq hall
        by_cases hlt : j < n'
        · have hjl : j < l'.length := by rw [Hlen'.out]; exact hlt
          obtain ⟨x, hx⟩ : ∃ x, x = l'[j] := ⟨_, rfl⟩
          have hxw : x.wf := by rw [hx]; exact hl' _ (List.getElem_mem hjl)
          have hsx := hs'.kept ((hk03.transNo hkS).transNo hkx)
          have hix := hsx.ix (P := Try.prog) Try.underlying32 (by kernel_rfl) hlt .i64
          have hld := (hsx.load (P := Try.prog) Try.underlying37 rfl (by kernel_rfl) hlt).1
          have hb : (l'.map Va.cells).getD j [] = x.cells := by rw [hx]; simp [hjl]
          rw [hb] at hld
          have hrx := HR.out x hxw
          have hok : ((x.k = vk ∨ x.k = 0) ∧ rightV x = true) → okIn V l'[j] := fun h => by rw [← hx]; unfold okIn; rw [HV.out]; exact h
          obtain ⟨rb, hrb⟩ : ∃ rb, rb = rightV x := ⟨_, rfl⟩
          rw [← hrb] at hrx hok
          have Hok := Lib.hid hok
          clear hx hb hrb hok hxw
          obtain ⟨k, nn, s, f⟩ := x
          unfold Va.cells at hld
          unfold Va.agg at hrx
          simp only at hld hrx Hok
          go_upto_region 11 with (refine wpList_loadV rfl 37 _ rfl _ rfl _ hld ?_)
          have hbX := heap_alloc_new wr (.cells #[.int .i64 k, .int .i64 nn, .string s, .int .u64 (f : Int)] 37)
          have hkX : Keeps No wr (wr.alloc (.cells #[.int .i64 k, .int .i64 nn, .string s, .int .u64 (f : Int)] 37)) := (Keeps.refl No wr).alloc _
          generalize (wr.alloc (.cells #[.int .i64 k, .int .i64 nn, .string s, .int .u64 (f : Int)] 37)) = w6 at hbX hkX ⊢
          have hk46 := hkx.transNo hkX
          have hk06 := hk04.transNo hk46
          obtain ⟨a0, a1, a2, a3⟩ := row4 hbX
          obtain ⟨b0, b1, b2, b3⟩ := row4 (hk46.blk hb4 (not_No _))
          by_cases hkk : k = vk ∨ k = 0
          case neg =>
            have e1 : (k != vk) = true := by simp; omega
            have e2 : (k != 0) = true := by simp; omega
            clear hkk
            go_wp2_with fail
            go_ret
            exact ⟨rfl, hk06⟩
          have hd : (k != vk) = false ∨ ((k != vk) = true ∧ (k != 0) = false) := by
            by_cases h : k = vk
            · left; simp [h]
            · right; refine ⟨by simp [h], by simp; omega⟩
          have Hkk := Lib.hid hkk
          clear hkk
          rcases hd with hd | ⟨hd, hd2⟩
          all_goals
            go_wp2_with fail
            refine (hrx _).mono ?_
            rintro e w7 ⟨rfl, hk7⟩
            cases rb
            · go_wp2_with fail
              go_ret
              exact ⟨rfl, hk06.transNo hk7⟩
            · go_wp2_with fail
              go_roundg (n' - (j + 1))
              case rel =>
                refine ⟨j + 1, by go_num, by omega, rfl, fun i h hi => ?_, hk46.transNo hk7⟩
                rcases Nat.lt_or_ge i j with h' | h'
                · exact Hall.out i h h'
                · obtain rfl : i = j := by omega
                  exact Hok.out ⟨Hkk.out, by first | trivial | rfl⟩
              case measure => have := Hqj.out; omega
        · obtain rfl : j = n' := by omega
          have hallL : ∀ x ∈ l', okIn V x := fun x hx => by
            obtain ⟨i, hi, rfl⟩ := List.mem_iff_getElem.1 hx
            exact Hall.out i hi (by have := Hlen'.out; omega)
          have HallL := Lib.hid hallL
          clear hallL
          go_wp2_with fail
          go_roundg 0
          case measure => have := Hq.out; omega
          case rel => exact ⟨2, rfl, by omega, rfl, fun _ => Ho1.out (by omega), fun _ => HallL.out, hkx⟩
    · have hA := Ho1.out (by omega)
      have hB := Ho2.out (by omega)
      have hl2 : (l ++ l').length ≤ 1000 := by rw [List.length_append, Hlen.out, Hlen'.out]; omega
      have wl2 : ∀ x ∈ l ++ l', x.wf := fun x hx => (List.mem_append.1 hx).elim (hl x) (hl' x)
      have hkm : ∀ x, goods (l ++ l') x → x.k = V.k := fun x hx => by
        have h1 : okIn V x := (List.mem_append.1 hx.1).elim (hA x) (hB x)
        exact h1.1.resolve_right hx.2.1
      have hvw : V.wf := by rw [HV.out]; exact hv
      have hpart : ∀ op : Int, 0 ≤ op → op ≤ 5 → (zmay (ofZ l) op V = true ∨ zmay (ofZ l') op V = true) → zmay (ofZ (l ++ l')) op V = true := fun op h0 h5 h => by
        rcases h with h | h
        · exact may_part (by omega) wl2 (by rw [Hlen.out]; omega) (fun x hx => List.mem_append.2 (.inl hx)) V hkm op ⟨h0, h5⟩ h
        · exact may_part (by omega) wl2 (by rw [Hlen'.out]; omega) (fun x hx => List.mem_append.2 (.inr hx)) V hkm op ⟨h0, h5⟩ h
      have wX := ofZ_wf l hl
      have wY := ofZ_wf l' hl'
      have wJ := ofZ_wf _ wl2
      have ej := join_append l l' (by rw [Hlen.out]; omega)
      have ec := join_comm l l' (by rw [Hlen.out]; omega) (by rw [Hlen'.out]; omega) hl hl'
      have e0 := join_zero (fine_of l (by rw [Hlen.out]; omega)) (by rw [Hlen.out]; omega)
      have hX := fun wx hs => of_any a n c l wx hs hl
      have hY := fun wx hs => of_any a' n' c' l' wx hs hl'
      have hj1 := fun wx => join_any (ofZ l) (ofZ l') wX wY wx
      have hj2 := fun wx => join_any (ofZ l') (ofZ l) wY wX wx
      have hj3 := fun wx => join_any (ofZ (l ++ l')) (ofZ l) wJ wX wx
      have hj4 := fun wx => join_any (ofZ l) Zo.zero wX (show Zo.zero.wf from ⟨by decide, by decide, by decide, zero_wf, zero_wf⟩) wx
      have hm1 := fun op ho wx => may_any (ofZ l) op V wX hvw ho wx
      have hm2 := fun op ho wx => may_any (ofZ l') op V wY hvw ho wx
      have hm3 := fun op ho wx => may_any (ofZ (l ++ l')) op V wJ hvw ho wx
      rw [ej] at hj1
      rw [← ec, ej] at hj2
      rw [e0] at hj4
      have eq : (joinZ (ofZ (l ++ l')) (ofZ l)).r = IntKind.i64.wrap ((ofZ (l ++ l')).r + (ofZ l).r) := rfl
      generalize joinZ (ofZ (l ++ l')) (ofZ l) = Q at hj3 eq
      clear ej ec e0 wX wY wJ hkm wl2 hl2 hA hB hvw
      generalize ofZ l = X at hX hj1 hj2 hj3 hj4 hm1 hpart eq
      generalize ofZ l' = Y at hY hj1 hj2 hm2 hpart
      generalize ofZ (l ++ l') = J at hj1 hj2 hj3 hm3 hpart eq
      obtain ⟨M1, hM1⟩ : ∃ M : Int → Bool, ∀ op, M op = zmay X op V := ⟨fun op => zmay X op V, fun _ => rfl⟩
      obtain ⟨M2, hM2⟩ : ∃ M : Int → Bool, ∀ op, M op = zmay Y op V := ⟨fun op => zmay Y op V, fun _ => rfl⟩
      obtain ⟨M3, hM3⟩ : ∃ M : Int → Bool, ∀ op, M op = zmay J op V := ⟨fun op => zmay J op V, fun _ => rfl⟩
      simp only [← hM1] at hm1 hpart
      simp only [← hM2] at hm2 hpart
      simp only [← hM3] at hm3 hpart
      rw [HV.out] at hm1 hm2 hm3
      clear hM1 hM2 hM3
      obtain ⟨x1, x2, x3, ⟨x4, x5, x6, x7⟩, ⟨x8, x9, x10, x11⟩⟩ := X
      obtain ⟨y1, y2, y3, ⟨y4, y5, y6, y7⟩, ⟨y8, y9, y10, y11⟩⟩ := Y
      obtain ⟨j1, j2, j3, ⟨j4, j5, j6, j7⟩, ⟨j8, j9, j10, j11⟩⟩ := J
      obtain ⟨q1, q2, q3, ⟨q4, q5, q6, q7⟩, ⟨q8, q9, q10, q11⟩⟩ := Q
      unfold Zo.agg at hX hY hj1 hj2 hj3
      unfold Zo.agg Zo.zero Va.zero at hj4
      unfold Zo.agg Va.agg at hm1 hm2 hm3
      simp only at hX hY hj1 hj2 hj3 hj4 hm1 hm2 hm3 eq
      subst eq
      have HX := Lib.hid hX
      have HY := Lib.hid hY
      have Hm1 := Lib.hid hm1
      have Hm2 := Lib.hid hm2
      have Hm3 := Lib.hid hm3
      have Hp := Lib.hid hpart
      have hk0r := hk04.transNo hkr
      have hbr := hkr.blk hb4 (not_No _)
      clear hX hY hm1 hm2 hm3 hpart
      go_wp2_with fail
      refine (HX.out _ (hs.kept ((hk03.transNo hkS).transNo hkr))).mono ?_
      rintro e w5 ⟨rfl, hk5⟩
      go_wp2_with fail
      refine (HY.out _ (hs'.kept (((hk03.transNo hkS).transNo hkr).transNo hk5))).mono ?_
      rintro e w6 ⟨rfl, hk6⟩
      go_upto_region 16 with fail
      have hbx := ((Keeps.refl No (w6.alloc (.cells #[.int .i64 x1, .int .i64 x2, .int .i64 x3, .int .i64 x4, .int .i64 x5, .string x6, .int .u64 (x7 : Int), .int .i64 x8, .int .i64 x9, .string x10, .int .u64 (x11 : Int)] 39))).alloc (.cells #[.int .i64 y1, .int .i64 y2, .int .i64 y3, .int .i64 y4, .int .i64 y5, .string y6, .int .u64 (y7 : Int), .int .i64 y8, .int .i64 y9, .string y10, .int .u64 (y11 : Int)] 39)).blk (heap_alloc_new w6 (.cells #[.int .i64 x1, .int .i64 x2, .int .i64 x3, .int .i64 x4, .int .i64 x5, .string x6, .int .u64 (x7 : Int), .int .i64 x8, .int .i64 x9, .string x10, .int .u64 (x11 : Int)] 39)) (not_No _)
      have hby := heap_alloc_new (w6.alloc (.cells #[.int .i64 x1, .int .i64 x2, .int .i64 x3, .int .i64 x4, .int .i64 x5, .string x6, .int .u64 (x7 : Int), .int .i64 x8, .int .i64 x9, .string x10, .int .u64 (x11 : Int)] 39)) (.cells #[.int .i64 y1, .int .i64 y2, .int .i64 y3, .int .i64 y4, .int .i64 y5, .string y6, .int .u64 (y7 : Int), .int .i64 y8, .int .i64 y9, .string y10, .int .u64 (y11 : Int)] 39)
      rw [show (w6.alloc (.cells #[.int .i64 x1, .int .i64 x2, .int .i64 x3, .int .i64 x4, .int .i64 x5, .string x6, .int .u64 (x7 : Int), .int .i64 x8, .int .i64 x9, .string x10, .int .u64 (x11 : Int)] 39)).heap.size = w6.heap.size + 1 from by simp] at hby
      have hkW : Keeps No wr ((w6.alloc (.cells #[.int .i64 x1, .int .i64 x2, .int .i64 x3, .int .i64 x4, .int .i64 x5, .string x6, .int .u64 (x7 : Int), .int .i64 x8, .int .i64 x9, .string x10, .int .u64 (x11 : Int)] 39)).alloc (.cells #[.int .i64 y1, .int .i64 y2, .int .i64 y3, .int .i64 y4, .int .i64 y5, .string y6, .int .u64 (y7 : Int), .int .i64 y8, .int .i64 y9, .string y10, .int .u64 (y11 : Int)] 39)) := ((hk5.transNo hk6).alloc _).alloc _
      generalize ((w6.alloc (.cells #[.int .i64 x1, .int .i64 x2, .int .i64 x3, .int .i64 x4, .int .i64 x5, .string x6, .int .u64 (x7 : Int), .int .i64 x8, .int .i64 x9, .string x10, .int .u64 (x11 : Int)] 39)).alloc (.cells #[.int .i64 y1, .int .i64 y2, .int .i64 y3, .int .i64 y4, .int .i64 y5, .string y6, .int .u64 (y7 : Int), .int .i64 y8, .int .i64 y9, .string y10, .int .u64 (y11 : Int)] 39)) = W2 at hbx hby hkW ⊢
      obtain ⟨a0, a1, a2, a3, a4, a5, a6, a7, a8, a9, a10⟩ := row11 hbx
      obtain ⟨b0, b1, b2, b3, b4, b5, b6, b7, b8, b9, b10⟩ := row11 hby
      go_wp2_with fail
      refine (hj1 _).mono ?_
      rintro e w7 ⟨rfl, hk7⟩
      clear a0 a1 a2 a3 a4 a5 a6 a7 a8 a9 a10 b0 b1 b2 b3 b4 b5 b6 b7 b8 b9 b10
      go_upto_region 17 with fail
      have hbj := heap_alloc_new w7 (.cells #[.int .i64 j1, .int .i64 j2, .int .i64 j3, .int .i64 j4, .int .i64 j5, .string j6, .int .u64 (j7 : Int), .int .i64 j8, .int .i64 j9, .string j10, .int .u64 (j11 : Int)] 39)
      have hkJ : Keeps No w7 (w7.alloc (.cells #[.int .i64 j1, .int .i64 j2, .int .i64 j3, .int .i64 j4, .int .i64 j5, .string j6, .int .u64 (j7 : Int), .int .i64 j8, .int .i64 j9, .string j10, .int .u64 (j11 : Int)] 39)) := (Keeps.refl No w7).alloc _
      generalize (w7.alloc (.cells #[.int .i64 j1, .int .i64 j2, .int .i64 j3, .int .i64 j4, .int .i64 j5, .string j6, .int .u64 (j7 : Int), .int .i64 j8, .int .i64 j9, .string j10, .int .u64 (j11 : Int)] 39)) = W3 at hbj hkJ ⊢
      have hbx3 := (hk7.transNo hkJ).blk hbx (not_No _)
      have hby3 := (hk7.transNo hkJ).blk hby (not_No _)
      have hkr3 := (hkW.transNo hk7).transNo hkJ
      have hk03' := hk0r.transNo hkr3
      have hbv3 := hkr3.blk hbr (not_No _)
      clear hbx hby hk5 hk6 hkW hk7 hkJ
      have hfX := fun wx (hx : Keeps No W3 wx) => row11 (hx.blk hbx3 (not_No _))
      have hfY := fun wx (hx : Keeps No W3 wx) => row11 (hx.blk hby3 (not_No _))
      have hfJ := fun wx (hx : Keeps No W3 wx) => row11 (hx.blk hbj (not_No _))
      have hfield := zone_rows
      refine wp_region_held_drew (S := fun wx => Keeps No W3 wx) (by kernel_rfl) ((Keeps.refl _ _).drew) (fun hS => ?_)
      refine tk (i := 0) (oi := ⟨some 67, _, _, _, _, _⟩) (v := ?_) rfl (by kernel_rfl) (fun _ _ _ h => h) (by assumption) (by rfl) (fun w hSw => ?_) ?_; rotate_left; (focus (first | (go_simp; done) | (go_simp; with_reducible rfl))); simp only [Act.put, List.setIfInBounds_toArray, List.set_cons_zero, List.set_cons_succ]
      refine tk (i := 1) (oi := ⟨some 68, _, _, _, _, _⟩) (v := ?_) rfl (by kernel_rfl) (fun _ _ _ h => h) (by assumption) (by rfl) (fun w hSw => ?_) ?_; rotate_left; (focus (first | (go_simp; done) | (go_simp; with_reducible rfl))); simp only [Act.put, List.setIfInBounds_toArray, List.set_cons_zero, List.set_cons_succ]
      refine tk (i := 2) (oi := ⟨some 69, _, _, _, _, _⟩) (v := ?_) rfl (by kernel_rfl) (fun _ _ _ h => h) (by assumption) (by rfl) (fun w hSw => ?_) ?_; rotate_left; (focus (first | (go_simp; done) | (go_simp; with_reducible rfl))); simp only [Act.put, List.setIfInBounds_toArray, List.set_cons_zero, List.set_cons_succ]
      refine alone (i := 3) (oi := ⟨some 70, _, _, _, _, _⟩) rfl (by kernel_rfl) (by rfl) (fun K hK => ?_); go_simp
      refine (hj2 _).mono ?_
      rintro e w8 ⟨rfl, hk8⟩
      refine hK.out (fun wx => Keeps No W3 wx) _ _ (fun _ h => h) (hS.transNo hk8) ?_
      clear hK K hS
      intro hS
      refine tk (i := 4) (oi := ⟨some 71, _, _, _, _, _⟩) (v := ?_) rfl (by kernel_rfl) (fun _ _ _ h => h) (by assumption) (by rfl) (fun w hSw => ?_) ?_; rotate_left; (focus (first | (go_simp; done) | (go_simp; with_reducible rfl))); simp only [Act.put, List.setIfInBounds_toArray, List.set_cons_zero, List.set_cons_succ]
      refine tk (i := 5) (oi := ⟨some 72, _, _, _, _, _⟩) (v := ?_) rfl (by kernel_rfl) (fun _ _ _ h => h) (by assumption) (by rfl) (fun w hSw => ?_) ?_; rotate_left; (focus (first | (go_simp; done) | (go_simp; with_reducible rfl))); simp only [Act.put, List.setIfInBounds_toArray, List.set_cons_zero, List.set_cons_succ]
      refine tk (i := 6) (oi := ⟨some 73, _, _, _, _, _⟩) (v := ?_) rfl (by kernel_rfl) (fun _ _ _ h => h) (by assumption) (by rfl) (fun w hSw => ?_) ?_; rotate_left; (focus (first | (go_simp; done) | (go_simp; with_reducible rfl))); simp only [Act.put, List.setIfInBounds_toArray, List.set_cons_zero, List.set_cons_succ]
      refine tk (i := 7) (oi := ⟨some 74, _, _, _, _, _⟩) (v := ?_) rfl (by kernel_rfl) (fun _ _ _ h => h) (by assumption) (by rfl) (fun w hSw => ?_) ?_; rotate_left; (focus (first | (go_simp; done) | (go_simp; with_reducible rfl))); simp only [Act.put, List.setIfInBounds_toArray, List.set_cons_zero, List.set_cons_succ]
      refine tk (i := 10) (oi := ⟨some 77, _, _, _, _, _⟩) (v := ?_) rfl (by kernel_rfl) (fun _ _ _ h => h) (by assumption) (by rfl) (fun w hSw => ?_) ?_; rotate_left; (focus (first | (go_simp; done) | (go_simp; with_reducible rfl))); simp only [Act.put, List.setIfInBounds_toArray, List.set_cons_zero, List.set_cons_succ]
      refine tk (i := 11) (oi := ⟨some 78, _, _, _, _, _⟩) (v := ?_) rfl (by kernel_rfl) (fun _ _ _ h => h) (by assumption) (by rfl) (fun w hSw => ?_) ?_; rotate_left; (focus (first | (go_simp; done) | (go_simp; with_reducible rfl))); simp only [Act.put, List.setIfInBounds_toArray, List.set_cons_zero, List.set_cons_succ]
      refine tk (i := 12) (oi := ⟨some 79, _, _, _, _, _⟩) (v := ?_) rfl (by kernel_rfl) (fun _ _ _ h => h) (by assumption) (by rfl) (fun w hSw => ?_) ?_; rotate_left; (focus (first | (go_simp; done) | (go_simp; with_reducible rfl))); simp only [Act.put, List.setIfInBounds_toArray, List.set_cons_zero, List.set_cons_succ]
      refine tk (i := 13) (oi := ⟨some 80, _, _, _, _, _⟩) (v := ?_) rfl (by kernel_rfl) (fun _ _ _ h => h) (by assumption) (by rfl) (fun w hSw => ?_) ?_; rotate_left; (focus (first | (go_simp; done) | (go_simp; with_reducible rfl))); simp only [Act.put, List.setIfInBounds_toArray, List.set_cons_zero, List.set_cons_succ]
      refine tk (i := 14) (oi := ⟨some 81, _, _, _, _, _⟩) (v := ?_) rfl (by kernel_rfl) (fun _ _ _ h => h) (by assumption) (by rfl) (fun w hSw => ?_) ?_; rotate_left; (focus (first | (go_simp; done) | (go_simp; with_reducible rfl))); simp only [Act.put, List.setIfInBounds_toArray, List.set_cons_zero, List.set_cons_succ]
      refine alone (i := 8) (oi := ⟨some 75, _, _, _, _, _⟩) rfl (by kernel_rfl) (by rfl) (fun K hK => ?_); go_simp
      refine (hj3 _).mono ?_
      rintro e w9 ⟨rfl, hk9⟩
      refine hK.out (fun wx => Keeps No W3 wx) _ _ (fun _ h => h) (hS.transNo hk9) ?_
      clear hK K hS
      intro hS
      refine tk (i := 9) (oi := ⟨some 76, _, _, _, _, _⟩) (v := ?_) rfl (by kernel_rfl) (fun _ _ _ h => h) (by assumption) (by rfl) (fun w hSw => ?_) ?_; rotate_left; (focus (first | (go_simp; done) | (go_simp; with_reducible rfl))); simp only [Act.put, List.setIfInBounds_toArray, List.set_cons_zero, List.set_cons_succ]
      refine tk (i := 15) (oi := ⟨some 82, _, _, _, _, _⟩) (v := ?_) rfl (by kernel_rfl) (fun _ _ _ h => h) (by assumption) (by rfl) (fun w hSw => ?_) ?_; rotate_left; (focus (first | (go_simp; done) | (go_simp; with_reducible rfl))); simp only [Act.put, List.setIfInBounds_toArray, List.set_cons_zero, List.set_cons_succ]
      refine tk (i := 16) (oi := ⟨some 83, _, _, _, _, _⟩) (v := ?_) rfl (by kernel_rfl) (fun _ _ _ h => h) (by assumption) (by rfl) (fun w hSw => ?_) ?_; rotate_left; (focus (first | (go_simp; done) | (go_simp; with_reducible rfl))); simp only [Act.put, List.setIfInBounds_toArray, List.set_cons_zero, List.set_cons_succ]
      refine tk (i := 17) (oi := ⟨some 84, _, _, _, _, _⟩) (v := ?_) rfl (by kernel_rfl) (fun _ _ _ h => h) (by assumption) (by rfl) (fun w hSw => ?_) ?_; rotate_left; (focus (first | (go_simp; done) | (go_simp; with_reducible rfl))); simp only [Act.put, List.setIfInBounds_toArray, List.set_cons_zero, List.set_cons_succ]
      refine tk (i := 18) (oi := ⟨some 85, _, _, _, _, _⟩) (v := ?_) rfl (by kernel_rfl) (fun _ _ _ h => h) (by assumption) (by rfl) (fun w hSw => ?_) ?_; rotate_left; (focus (first | (go_simp; done) | (go_simp; with_reducible rfl))); simp only [Act.put, List.setIfInBounds_toArray, List.set_cons_zero, List.set_cons_succ]
      refine tk (i := 19) (oi := ⟨some 86, _, _, _, _, _⟩) (v := ?_) rfl (by kernel_rfl) (fun _ _ _ h => h) (by assumption) (by rfl) (fun w hSw => ?_) ?_; rotate_left; (focus (first | (go_simp; done) | (go_simp; with_reducible rfl))); simp only [Act.put, List.setIfInBounds_toArray, List.set_cons_zero, List.set_cons_succ]
      refine tk (i := 21) (oi := ⟨some 88, _, _, _, _, _⟩) (v := ?_) rfl (by kernel_rfl) (fun _ _ _ h => h) (by assumption) (by rfl) (fun w hSw => ?_) ?_; rotate_left; (focus (first | (go_simp; done) | (go_simp; with_reducible rfl))); simp only [Act.put, List.setIfInBounds_toArray, List.set_cons_zero, List.set_cons_succ]
      refine alone (i := 20) (oi := ⟨some 87, _, _, _, _, _⟩) rfl (by kernel_rfl) (by rfl) (fun K hK => ?_); go_simp
      refine (hj4 _).mono ?_
      rintro e w10 ⟨rfl, hk10⟩
      refine hK.out (fun wx => Keeps No W3 wx) _ _ (fun _ h => h) (hS.transNo hk10) ?_
      clear hK K hS
      intro hS
      refine tk (i := 22) (oi := ⟨some 89, _, _, _, _, _⟩) (v := ?_) rfl (by kernel_rfl) (fun _ _ _ h => h) (by assumption) (by rfl) (fun w hSw => ?_) ?_; rotate_left; (focus (first | (go_simp; done) | (go_simp; with_reducible rfl))); simp only [Act.put, List.setIfInBounds_toArray, List.set_cons_zero, List.set_cons_succ]
      refine tk (i := 23) (oi := ⟨some 90, _, _, _, _, _⟩) (v := ?_) rfl (by kernel_rfl) (fun _ _ _ h => h) (by assumption) (by rfl) (fun w hSw => ?_) ?_; rotate_left; (focus (first | (go_simp; done) | (go_simp; with_reducible rfl))); simp only [Act.put, List.setIfInBounds_toArray, List.set_cons_zero, List.set_cons_succ]
      refine wpAnyH_done (by kernel_rfl) ?_ _
      have hkS2 := hS
      clear hS hj1 hj2 hj3 hj4
      go_wp2_with fail
      go_loopg [14] 6 (fun q v14 wz => ∃ op : Int, v14 = .int .i64 op ∧ 0 ≤ op ∧ op ≤ 6 ∧ q = (6 - op).toNat ∧ Keeps No W3 wz)
      case atStart => exact ⟨0, rfl, by omega, by omega, rfl, hkS2⟩
      case round =>
        obtain ⟨op, rfl, h0, h6, hq, hkz⟩ := hrel
        have Hqz := Lib.hid hq
        clear hq
        by_cases h5 : op ≤ 5
        · have how : (Lit.int .i64 op).wf = true := by
            rcases (show op = 0 ∨ op = 1 ∨ op = 2 ∨ op = 3 ∨ op = 4 ∨ op = 5 by omega) with rfl | rfl | rfl | rfl | rfl | rfl <;> decide
          have hp := Hp.out op h0 h5
          have c1 := Hm1.out op how
          have c2 := Hm2.out op how
          have c3 := Hm3.out op how
          generalize M1 op = m1 at hp c1
          generalize M2 op = m2 at hp c2
          generalize M3 op = m3 at hp c3
          have hp2 := Lib.hid hp
          clear hp
          obtain ⟨a0, a1, a2, a3, a4, a5, a6, a7, a8, a9, a10⟩ := hfX _ hkz
          obtain ⟨v0, v1, v2, v3⟩ := row4 (hkz.blk hbv3 (not_No _))
          go_wp2_with fail
          refine (c1 _).mono ?_
          rintro e w11 ⟨rfl, hk11⟩
          have hkz1 := hkz.transNo hk11
          cases m1
          case true =>
            have hm3 : m3 = true := hp2.out (.inl rfl)
            subst hm3
            obtain ⟨a0, a1, a2, a3, a4, a5, a6, a7, a8, a9, a10⟩ := hfJ _ hkz1
            obtain ⟨v0, v1, v2, v3⟩ := row4 (hkz1.blk hbv3 (not_No _))
            go_wp2_with fail
            refine (c3 _).mono ?_
            rintro e w12 ⟨rfl, hk12⟩
            go_wp2_with fail
            go_roundg ((6 - (op + 1)).toNat)
            case rel => exact ⟨op + 1, by go_num, by omega, by omega, rfl, hkz1.transNo hk12⟩
            case measure => have := Hqz.out; omega
          obtain ⟨a0, a1, a2, a3, a4, a5, a6, a7, a8, a9, a10⟩ := hfY _ hkz1
          obtain ⟨v0, v1, v2, v3⟩ := row4 (hkz1.blk hbv3 (not_No _))
          go_wp2_with fail
          refine (c2 _).mono ?_
          rintro e w12 ⟨rfl, hk12⟩
          have hkz2 := hkz1.transNo hk12
          cases m2
          case true =>
            have hm3 : m3 = true := hp2.out (.inr rfl)
            subst hm3
            obtain ⟨a0, a1, a2, a3, a4, a5, a6, a7, a8, a9, a10⟩ := hfJ _ hkz2
            obtain ⟨v0, v1, v2, v3⟩ := row4 (hkz2.blk hbv3 (not_No _))
            go_wp2_with fail
            refine (c3 _).mono ?_
            rintro e w13 ⟨rfl, hk13⟩
            go_wp2_with fail
            go_roundg ((6 - (op + 1)).toNat)
            case rel => exact ⟨op + 1, by go_num, by omega, by omega, rfl, hkz2.transNo hk13⟩
            case measure => have := Hqz.out; omega
          go_wp2_with fail
          go_roundg ((6 - (op + 1)).toNat)
          case rel => exact ⟨op + 1, by go_num, by omega, by omega, rfl, hkz2⟩
          case measure => have := Hqz.out; omega
        · obtain rfl : op = 6 := by omega
          go_wp2_with fail
          go_ret
          exact ⟨rfl, hk03'.transNo hkz⟩

/-- A value as the row reads it. -/
abbrev VR := I64 × I64 × ByteArray × U64
def vrCells (x : VR) : List Value := [i64V x.1, i64V x.2.1, .string x.2.2.1, u64V x.2.2.2]
def toVa (x : VR) : Va := ⟨x.1.1, x.2.1.1, x.2.2.1, x.2.2.2.1.toNat⟩
theorem vr_u64 (x : U64) : u64V x = .int .u64 (x.1.toNat : Int) ∧ x.1.toNat < 18446744073709551616 := by
  obtain ⟨k, hk, hlt⟩ := wf_u64_nat x.2
  unfold u64V
  rw [hk]
  exact ⟨rfl, by simpa using hlt⟩
theorem vr_cells (x : VR) : vrCells x = (toVa x).cells := by
  unfold vrCells Va.cells toVa
  rw [(vr_u64 x.2.2.2).1]
  rfl
theorem vr_agg (x : VR) : Value.agg (vrCells x).toArray = (toVa x).agg := by rw [vr_cells]; rfl
theorem vr_wf (x : VR) : (toVa x).wf := ⟨x.1.2, x.2.1.2, (vr_u64 x.2.2.2).2⟩
theorem vr_map (l : List VR) : l.map vrCells = (l.map toVa).map Va.cells := by
  rw [List.map_map]
  exact List.map_congr_left fun x _ => vr_cells x
theorem vr_all (l : List VR) : ∀ v ∈ l.map toVa, v.wf := by
  intro v hv; obtain ⟨x, _, rfl⟩ := List.mem_map.1 hv; exact vr_wf x
theorem zoneOf_walk (a : Option Addr) (n c : Nat) (l : List VR) (a' : Option Addr) (n' c' : Nat) (l' : List VR) (w : World) (hs : SlK w 4 a n c (l.map vrCells)) (hn : n * 40 ≤ 140737488351232) (hs' : SlK w 4 a' n' c' (l'.map vrCells)) (hn' : n' * 40 ≤ 140737488351232) :
    Calls Try.prog 6 #[.slice a n c, .slice a' n' c'] w fun e w' => e = .returned (.bool true) ∧ Keeps No w w' := by
  rw [vr_map] at hs hs'
  exact zoneOf_any a n c _ a' n' c' _ (vr_all l) (vr_all l') w hs hs' (by omega) (by omega)
theorem zoneHolds_walk (op : Int) (a b : VR) (w : World) (hop : (Lit.int .i64 op).wf = true) (ha : a.2.2.1.size ≤ 140737488351232) (hb : b.2.2.1.size ≤ 140737488351232) :
    Calls Try.prog 7 #[.int .i64 op, .agg (vrCells a).toArray, .agg (vrCells b).toArray] w fun e w' => e = .returned (.bool true) ∧ Keeps No w w' := by
  rw [vr_agg, vr_agg]
  exact zoneHolds_any op _ _ hop (vr_wf a) (vr_wf b) ha hb w
theorem zoneOne_walk (op : Int) (a b : VR) (w : World) (hop : (Lit.int .i64 op).wf = true) (ha : a.2.2.1.size ≤ 140737488351232) (hb : b.2.2.1.size ≤ 140737488351232) :
    Calls Try.prog 10 #[.int .i64 op, .agg (vrCells a).toArray, .agg (vrCells b).toArray] w fun e w' => e = .returned (.bool true) ∧ Keeps No w w' := by
  rw [vr_agg, vr_agg]
  exact zoneOne_any op _ _ hop (vr_wf a) (vr_wf b) ha hb w
theorem zoneSound_walk (a : Option Addr) (n c : Nat) (l : List VR) (op : Int) (v : VR) (w : World) (hs : SlK w 4 a n c (l.map vrCells)) (hn : n * 40 ≤ 140737488351232) (hop : (Lit.int .i64 op).wf = true) (hv : v.2.2.1.size ≤ 140737488351232) :
    Calls Try.prog 8 #[.slice a n c, .int .i64 op, .agg (vrCells v).toArray] w fun e w' => e = .returned (.bool true) ∧ Keeps No w w' := by
  rw [vr_map] at hs
  rw [vr_agg]
  exact zoneSound_any a n c _ op _ (vr_all l) hop (vr_wf v) hv w hs (by omega)
theorem zoneParts_walk (a : Option Addr) (n c : Nat) (l : List VR) (a' : Option Addr) (n' c' : Nat) (l' : List VR) (v : VR) (w : World) (hs : SlK w 4 a n c (l.map vrCells)) (hn : n * 40 ≤ 140737488351232) (hs' : SlK w 4 a' n' c' (l'.map vrCells)) (hn' : n' * 40 ≤ 140737488351232) (hv : v.2.2.1.size ≤ 140737488351232) :
    Calls Try.prog 9 #[.slice a n c, .slice a' n' c', .agg (vrCells v).toArray] w fun e w' => e = .returned (.bool true) ∧ Keeps No w w' := by
  rw [vr_map] at hs hs'
  rw [vr_agg]
  exact zoneParts_any a n c _ a' n' c' _ _ (vr_all l) (vr_all l') (vr_wf v) hv w hs hs' (by omega) (by omega)
end Go.Proofs.Ytmhmpnbcjcmnnaa
