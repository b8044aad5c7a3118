/- The walk of the law SpaceCounts. -/
import Derived.Test.YtpceigiofbeihaaLawSixP
namespace Go.Proofs.Ytpceigiofbeihaa
open Go.RowKit
set_option linter.unusedSimpArgs false
set_option linter.unusedVariables false

/-- What is reserved is taken. -/
def Res (r : Nat) (T : List Bool) : Prop := ∀ k, k < r → T[k]? = some true
theorem Res.setTrue {r : Nat} {T : List Bool} (h : Res r T) (i : Nat) : Res r (T.set i true) := by
  intro k hk
  have := h k hk
  have hl := (List.getElem?_eq_some_iff.1 this).1
  rw [List.getElem?_set]
  split
  · simp; omega
  · exact this
theorem Res.setOver {r : Nat} {T : List Bool} (h : Res r T) (i : Nat) (b : Bool) (hi : r ≤ i) : Res r (T.set i b) := by
  intro k hk
  rw [List.getElem?_set_ne (by omega)]
  exact h k hk
theorem Res.step {r : Nat} {T : List Bool} (h : Res r T) (o : I64 × I64) : Res r (stepT r T o) := by
  unfold stepT
  split
  · unfold takeT
    split
    · exact h.setTrue _
    · exact h
  · split
    · unfold markT
      split
      · exact h.setTrue _
      · exact h
    · unfold giveT
      split
      · rename_i hc
        exact h.setOver _ _ (by omega)
      · exact h
theorem stepT_length (r : Nat) (T : List Bool) (o : I64 × I64) : (stepT r T o).length = T.length := by
  unfold stepT
  split
  · exact takeT_length T
  · split
    · exact markT_length T _
    · exact giveT_length T r _
theorem Res.new (n r : Nat) : Res r (newT n r) := by
  intro k hk
  unfold newT
  rw [List.getElem?_append_left (by simpa using hk)]
  simp [hk]
theorem SlK.one2 (w : World) (x y : Value) (t : TypeId) : SlK (w.alloc (.cells #[x, y] t)) 2 (some ⟨w.heap.size, 0, Option.none⟩) 1 1 [[x, y]] := by
  refine ⟨rfl, Nat.le_refl _, by unfold maxLen; omega, fun h => by simp at h, fun u hu => by simp at hu; subst hu; rfl, fun i hi j hj => ?_⟩
  obtain rfl : i = 0 := by omega
  have : (w.alloc (.cells #[x, y] t)).heap[w.heap.size]? = some (.cells #[x, y] t) := heap_alloc_new w _
  show (w.alloc (.cells #[x, y] t)).cell? ((⟨w.heap.size, 0, Option.none⟩ : Addr).add _) = _
  rw [Addr.add_lit, cell_of_row _ w.heap.size _ _ t (0, 0) this]
  simp
theorem SM.tb_lt {w : World} {b tb : Nat} {T : List Bool} {r : Nat} (h : SM w b tb T r) : tb < w.heap.size := by
  obtain ⟨n, c, h0, h1, h2, h3⟩ := h
  exact (h2.lt _ rfl).2
theorem count_both (T : List Bool) : T.count true + T.count false = T.length := by
  induction T with
  | nil => rfl
  | cons x t ih => cases x <;> simp <;> omega

set_option maxRecDepth 100000 in
set_option maxHeartbeats 4000000 in
theorem spaceCounts_any (a : Option Addr) (n c : Nat) (L : List (I64 × I64)) (y : Int) (w : World) (hs : SlK w 2 a n c (L.map op6V)) (hn : n ≤ 140737488351232) (hy : (Lit.int .u8 y).wf = true) :
    Calls Try.prog 10 #[.slice a n c, .int .u8 y] w fun e w' => e = .returned (.bool true) ∧ Keeps No w w' := by
  have hlen : L.length = n := by simpa using hs.len
  have Hlen := Lib.hid hlen
  clear hlen
  have hy' := wf_u8_nat hy
  obtain ⟨yn, rfl, hyn⟩ : ∃ k : Nat, y = k ∧ k < 256 := by obtain ⟨k, h1, h2⟩ := hy'; exact ⟨k, h1, h2⟩
  clear hy hy'
  obtain ⟨r, hr⟩ : ∃ r : Nat, r = yn % 10 := ⟨_, rfl⟩
  have hr1 : r < 10 := by omega
  have e2 : (yn : Int) % 10 = (r : Int) := by omega
  clear hr
  go_enter Try.func10, Try.ntmps10
  go_wp2_with fail
  refine (first06_any _).mono ?_
  rintro e w1 ⟨rfl, hk1⟩
  go_wp2_with fail
  refine (new_ok 30 r _ (by omega) (by omega) (by omega)).mono ?_
  rintro e w2 ⟨b, tb, rfl, hS2, hb, htb, hb2, htb2, hk2⟩
  have z1 := hk1.size
  have z2 := hk2.size
  have hk02 := hk1.transNo hk2
  have hres := Res.new 30 r
  have hlen2 := newT_length 30 r (by omega)
  go_wp2_with fail
  go_loopw [8, 9, 10, 11, 24] (fun _ _ _ _ i wr => ∃ (j : Nat) (T : List Bool), j ≤ n ∧ i = .int .i64 j ∧ SM wr b tb T r ∧ Res r T ∧ T.length = 30 ∧ Keeps No w wr)
    (fun _ _ _ _ i _ => n - (intOf i).toNat)
  case atStart => exact ⟨0, _, Nat.zero_le _, rfl, hS2, hres, hlen2, hk02⟩
  case round =>
    clear hS2 hres hlen2
    obtain ⟨j, T, hj, rfl, hS, hres, hTl, hkr⟩ := hrel
    have HTl := Lib.hid hTl
    clear hTl
    by_cases hlt : j < n
    · have hjL : j < L.length := by rw [Hlen.out]; exact hlt
      have hsr := hs.kept hkr
      have hix := hsr.ix (P := Try.prog) Try.underlying49 (by kernel_rfl) hlt .i64
      obtain ⟨o, ho⟩ : ∃ o, o = L[j] := ⟨_, rfl⟩
      have hb0 : (L.map op6V).getD j [] = op6V o := by rw [ho]; simp [hjL]
      obtain ⟨hld, hlv⟩ := hsr.load (P := Try.prog) (ty := 54) Try.underlying54 rfl (by kernel_rfl) hlt
      rw [hb0, show (op6V o).toArray = #[.int .i64 o.1.1, .int .i64 o.2.1] from rfl] at hld hlv
      clear hb0 ho
      by_cases h80 : j < 80
      · go_wp2_with (refine wpList_loadV rfl 54 _ rfl _ rfl _ hld ?_)
        have hkA := (((Keeps.refl No wr).alloc (.cells #[.int .i64 o.1.1, .int .i64 o.2.1] 54)).alloc (.cells #[.int .i64 o.1.1, .int .i64 o.2.1] 54))
        have hone : SlK ((wr.alloc (.cells #[.int .i64 o.1.1, .int .i64 o.2.1] 54)).alloc (.cells #[.int .i64 o.1.1, .int .i64 o.2.1] 54)) 2 (some ⟨wr.heap.size + 1, 0, Option.none⟩) 1 1 (([o] : List (I64 × I64)).map op6V) := by
          have := SlK.one2 (wr.alloc (.cells #[.int .i64 o.1.1, .int .i64 o.2.1] 54)) (.int .i64 o.1.1) (.int .i64 o.2.1) 54
          rw [show (wr.alloc (.cells #[.int .i64 o.1.1, .int .i64 o.2.1] 54)).heap.size = wr.heap.size + 1 from by simp] at this
          exact this
        have htbl := hS.tb_lt
        refine (play_any b tb T r _ 1 1 [o] _ (hS.kept hkA) hone (by omega) (fun _ => by show wr.heap.size + 1 ≠ tb; omega)).mono ?_
        rintro e w5 ⟨rfl, hS5, hk5⟩
        have hkr5 : Keeps No w w5 := (hkr.transNo hkA).trans hk5 (fun k hk h => by omega)
        have hres5 := hres.step o
        have hl5 := (stepT_length r T o).trans HTl.out
        change SM w5 b tb (stepT r T o) r at hS5
        obtain ⟨T', hT'⟩ : ∃ T', stepT r T o = T' := ⟨_, rfl⟩
        rw [hT'] at hres5 hl5 hS5
        clear hT' hS hres HTl hkr hkA hone hsr hix hld hlv hk5
        have Hl5 := Lib.hid hl5
        clear hl5
        go_wp2_with fail
        go_loopw [10, 11, 35] (fun q _ i wr => ∃ (j' q' : Nat), j' ≤ 30 ∧ q' ≤ j' ∧ q' = (T'.take j').count true ∧ q = .int .i64 q' ∧ i = .int .i64 j' ∧ w5 = wr)
          (fun _ _ i _ => 30 - (intOf i).toNat)
        case atStart => exact ⟨0, 0, Nat.zero_le _, Nat.zero_le _, by simp, rfl, rfl, rfl⟩
        case round =>
          obtain ⟨j', q', hj', hqj, hq, rfl, rfl, rfl⟩ := hrel
          have Hq := Lib.hid hq
          clear hq
          by_cases hlt' : j' < 30
          · have hjT : j' < T'.length := by rw [Hl5.out]; exact hlt'
            have hcall := taken_any b tb T' r w5 hS5 (j' : Int)
            obtain ⟨x, hx⟩ : ∃ x, x = T'[j'] := ⟨_, rfl⟩
            have htk : takenAt T' (j' : Int) = x := by unfold takenAt; simp [hjT, hx]
            rw [htk] at hcall
            have hstep : (T'.take (j' + 1)).count true = (T'.take j').count true + (if x = true then 1 else 0) := by
              rw [List.take_succ_eq_append_getElem hjT, List.count_append, ← hx]
              cases x <;> simp
            have hrx : j' < r → x = true := fun h => by
              have := hres5 j' h
              rw [List.getElem?_eq_getElem hjT, ← hx] at this
              simpa using this
            have Hs := Lib.hid hstep
            clear hstep hx htk
            cases x
            · have hnr : ¬ j' < r := fun h => by cases hrx h
              clear hrx
              go_wp2_with fail
              refine hcall.mono ?_
              rintro e w6 ⟨rfl, rfl⟩
              go_wp2_with fail
              go_roundw
              case rel => exact ⟨j' + 1, q', by omega, by omega, by rw [Hs.out, ← Hq.out]; rfl, rfl, by go_num, by first | rfl | trivial⟩
              case measure => simp [intOf]; omega
            · clear hrx
              by_cases hnr : j' < r
              · go_wp2_with fail
                refine hcall.mono ?_
                rintro e w6 ⟨rfl, rfl⟩
                go_wp2_with fail
                refine hcall.mono ?_
                rintro e w6 ⟨rfl, rfl⟩
                go_wp2_with fail
                go_roundw
                case rel => exact ⟨j' + 1, q' + 1, by omega, by omega, by rw [Hs.out, ← Hq.out]; rfl, by go_num, by go_num, by first | rfl | trivial⟩
                case measure => simp [intOf]; omega
              · go_wp2_with fail
                refine hcall.mono ?_
                rintro e w6 ⟨rfl, rfl⟩
                go_wp2_with fail
                go_roundw
                case rel => exact ⟨j' + 1, q' + 1, by omega, by omega, by rw [Hs.out, ← Hq.out]; rfl, by go_num, by go_num, by first | rfl | trivial⟩
                case measure => simp [intOf]; omega
          · obtain rfl : 30 = j' := by omega
            have hq30 : q' + T'.count false = 30 := by
              have h1 := count_both T'
              have h2 := Hq.out
              rw [List.take_of_length_le (by rw [Hl5.out]; exact Nat.le_refl _)] at h2
              have h3 := Hl5.out
              omega
            have hcall := free_any b tb T' r w5 hS5
            obtain ⟨f, hf⟩ : ∃ f, T'.count false = f := ⟨_, rfl⟩
            rw [hf] at hcall hq30
            have e30 : (q' : Int) + (f : Int) = 30 := by omega
            clear hf hq30
            go_wp2_with fail
            refine hcall.mono ?_
            rintro e w6 ⟨rfl, rfl⟩
            go_wp2_with fail
            go_roundw
            case rel => exact ⟨j + 1, T', by omega, by go_num, hS5, hres5, Hl5.out, hkr5⟩
            case measure => simp [intOf]; omega
      · go_wp2_with (refine wpList_loadV rfl 54 _ rfl _ rfl _ hld ?_)
        refine (copy_any b tb T r _ (hS.kept ((Keeps.refl No wr).alloc _))).mono ?_
        rintro e w5 ⟨b', tb', rfl, hS5, g1, g2, g3, g4, hk5⟩
        have hfree1 := free_any b' tb' T r w5 hS5
        have hkr5 := (hkr.alloc (.cells #[.int .i64 o.1.1, .int .i64 o.2.1] 54)).transNo hk5
        have hfree2 := free_any b tb T r w5 ((hS.kept ((Keeps.refl No wr).alloc _)).kept hk5)
        go_wp2_with fail
        refine hfree1.mono ?_
        rintro e w6 ⟨rfl, rfl⟩
        go_wp2_with fail
        refine hfree2.mono ?_
        rintro e w6 ⟨rfl, rfl⟩
        go_wp2_with fail
        go_ret
        exact ⟨rfl, hkr5⟩
    · obtain rfl : n = j := by omega
      go_wp2_with fail
      refine (copy_any b tb T r _ hS).mono ?_
      rintro e w5 ⟨b', tb', rfl, hS5, g1, g2, g3, g4, hk5⟩
      have hfree1 := free_any b' tb' T r w5 hS5
      have hkr5 := hkr.transNo hk5
      have hfree2 := free_any b tb T r w5 (hS.kept hk5)
      go_wp2_with fail
      refine hfree1.mono ?_
      rintro e w6 ⟨rfl, rfl⟩
      go_wp2_with fail
      refine hfree2.mono ?_
      rintro e w6 ⟨rfl, rfl⟩
      go_wp2_with fail
      go_ret
      exact ⟨rfl, hkr5⟩

end Go.Proofs.Ytpceigiofbeihaa
