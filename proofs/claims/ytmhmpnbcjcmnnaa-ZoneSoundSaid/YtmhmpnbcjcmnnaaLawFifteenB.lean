/- The walks of the statements on zones: ZoneOf, ZoneSound. -/
import Derived.Test.YtmhmpnbcjcmnnaaLawFifteen
namespace Go.Proofs.Ytmhmpnbcjcmnnaa
open Go.RowKit
set_option linter.unusedSimpArgs false
set_option linter.unusedVariables false

theorem val_info : (Try.prog.info? 37).map (fun i => (i.zero, i.size, i.bytes)) = some (some (.agg #[.int .i64 0, .int .i64 0, .string ByteArray.empty, .int .u64 0]), 4, 40) := by kernel_rfl
theorem vals_one (l : List Va) : ∀ u ∈ (l.map Va.cells).flatten, u.oneCell' = true := by
  intro u hu
  obtain ⟨x, hx, hu⟩ := List.mem_flatten.1 hu
  obtain ⟨v, _, rfl⟩ := List.mem_map.1 hx
  simp [Va.cells] at hu
  rcases hu with rfl | rfl | rfl | rfl <;> rfl

theorem owns_lit0K (w : World) (base : Nat) (e : TypeId) {k : Nat} (hb : base ≤ w.heap.size) : (w.alloc (.cells #[] e)).ownsRow base e k (.slice (some ⟨w.heap.size, 0, none⟩) 0 0) 0 [] :=
  World.ownsRow_made w #[] 0 hb (Nat.zero_le _) (by simp)

set_option maxRecDepth 100000 in
set_option maxHeartbeats 8000000 in
theorem zoneOf_any (a : Option Addr) (n c : Nat) (l : List Va) (a' : Option Addr) (n' c' : Nat) (l' : List Va) (hl : ∀ v ∈ l, v.wf) (hl' : ∀ v ∈ l', v.wf) (w : World) (hs : SlK w 4 a n c (l.map Va.cells)) (hs' : SlK w 4 a' n' c' (l'.map Va.cells)) (hn : n ≤ 140737488351232) (hn' : n' ≤ 140737488351232) :
    Calls Try.prog 6 #[.slice a n c, .slice a' n' c'] w fun e w' => e = .returned (.bool true) ∧ Keeps No w w' := by
  have hlen : l.length = n := by simpa using hs.len
  have hlen' : l'.length = n' := by simpa using hs'.len
  have Hlen := Lib.hid hlen
  have Hlen' := Lib.hid hlen'
  clear hlen hlen'
  go_enter Try.func6, Try.ntmps6
  go_wp2_with fail
  refine (first15_any _).mono ?_
  rintro e w1 ⟨rfl, hk1⟩
  go_wp2_with fail
  refine (long_any a n c l _ (hs.kept hk1) hn).mono ?_
  rintro e w2 ⟨rfl, hk2⟩
  have hk02 := hk1.transNo hk2
  cases hb : longB l
  case true =>
    clear hb
    go_wp2_with fail
    go_ret
    exact ⟨rfl, hk02⟩
  have hsm := longB_small hb
  clear hb
  go_wp2_with fail
  refine (long_any a' n' c' l' _ (hs'.kept hk02) hn').mono ?_
  rintro e w3 ⟨rfl, hk3⟩
  have hk03 := hk02.transNo hk3
  cases hb : longB l'
  case true =>
    clear hb
    go_wp2_with fail
    go_ret
    exact ⟨rfl, hk03⟩
  have hsm' := longB_small hb
  clear hb
  have hn200 : n ≤ 200 := by have := hsm.1; have := Hlen.out; omega
  have hn200' : n' ≤ 200 := by have := hsm'.1; have := Hlen'.out; omega
  have hs3 := hs.kept hk03
  have hs3' := hs'.kept hk03
  have hjoin := fun wx => join_any (ofZ l) (ofZ l') (ofZ_wf l hl) (ofZ_wf l' hl') wx
  rw [join_append l l' (by omega)] at hjoin
  have hX := fun wx hs => of_any a n c l wx hs hl
  have hY := fun wx hs => of_any a' n' c' l' wx hs hl'
  have hRX := fun wx hs => refof_any a n c l wx hs (fun v hv => ⟨hl v hv, Nat.le_trans (hsm.2 v hv) (by decide)⟩) (by omega)
  have hRY := fun wx hs => refof_any a' n' c' l' wx hs (fun v hv => ⟨hl' v hv, Nat.le_trans (hsm'.2 v hv) (by decide)⟩) (by omega)
  have hRJ := fun p q r wx hs => refof_any p q r (l ++ l') wx hs (fun v hv => by
    rcases List.mem_append.1 hv with h | h
    · exact ⟨hl v h, Nat.le_trans (hsm.2 v h) (by decide)⟩
    · exact ⟨hl' v h, Nat.le_trans (hsm'.2 v h) (by decide)⟩)
  generalize ofZ l = X at hX hRX hjoin
  generalize ofZ l' = Y at hY hRY hjoin
  generalize ofZ (l ++ l') = J at hRJ hjoin
  obtain ⟨x1, x2, x3, ⟨x4, x5, x6, x7⟩, ⟨x8, x9, x10, x11⟩⟩ := X
  obtain ⟨y1, y2, y3, ⟨y4, y5, y6, y7⟩, ⟨y8, y9, y10, y11⟩⟩ := Y
  obtain ⟨j1, j2, j3, ⟨j4, j5, j6, j7⟩, ⟨j8, j9, j10, j11⟩⟩ := J
  unfold Zo.agg at hX hY hRX hRY hRJ hjoin
  simp only at hX hY hRX hRY hRJ hjoin
  have HX := Lib.hid hX
  have HY := Lib.hid hY
  have HRX := Lib.hid hRX
  have HRY := Lib.hid hRY
  have HRJ := Lib.hid hRJ
  have HSM := Lib.hid hsm
  have HSM' := Lib.hid hsm'
  clear hX hY hRX hRY hRJ hsm hsm'
  go_wp2_with fail
  refine (HX.out _ hs3).mono ?_
  rintro e w4 ⟨rfl, hk4⟩
  go_wp2_with fail
  refine (HY.out _ (hs3'.kept hk4)).mono ?_
  rintro e w5 ⟨rfl, hk5⟩
  go_upto_region 6 with fail
  have hbx := ((Keeps.refl No (w5.alloc (.cells #[.int .i64 x1, .int .i64 x2, .int .i64 x3, .int .i64 x4, .int .i64 x5, .string x6, .int .u64 (x7 : Int), .int .i64 x8, .int .i64 x9, .string x10, .int .u64 (x11 : Int)] 39))).alloc (.cells #[.int .i64 y1, .int .i64 y2, .int .i64 y3, .int .i64 y4, .int .i64 y5, .string y6, .int .u64 (y7 : Int), .int .i64 y8, .int .i64 y9, .string y10, .int .u64 (y11 : Int)] 39)).blk (heap_alloc_new w5 (.cells #[.int .i64 x1, .int .i64 x2, .int .i64 x3, .int .i64 x4, .int .i64 x5, .string x6, .int .u64 (x7 : Int), .int .i64 x8, .int .i64 x9, .string x10, .int .u64 (x11 : Int)] 39)) (not_No _)
  have hby := heap_alloc_new (w5.alloc (.cells #[.int .i64 x1, .int .i64 x2, .int .i64 x3, .int .i64 x4, .int .i64 x5, .string x6, .int .u64 (x7 : Int), .int .i64 x8, .int .i64 x9, .string x10, .int .u64 (x11 : Int)] 39)) (.cells #[.int .i64 y1, .int .i64 y2, .int .i64 y3, .int .i64 y4, .int .i64 y5, .string y6, .int .u64 (y7 : Int), .int .i64 y8, .int .i64 y9, .string y10, .int .u64 (y11 : Int)] 39)
  rw [show (w5.alloc (.cells #[.int .i64 x1, .int .i64 x2, .int .i64 x3, .int .i64 x4, .int .i64 x5, .string x6, .int .u64 (x7 : Int), .int .i64 x8, .int .i64 x9, .string x10, .int .u64 (x11 : Int)] 39)).heap.size = w5.heap.size + 1 from by simp] at hby
  have hkW : Keeps No w3 ((w5.alloc (.cells #[.int .i64 x1, .int .i64 x2, .int .i64 x3, .int .i64 x4, .int .i64 x5, .string x6, .int .u64 (x7 : Int), .int .i64 x8, .int .i64 x9, .string x10, .int .u64 (x11 : Int)] 39)).alloc (.cells #[.int .i64 y1, .int .i64 y2, .int .i64 y3, .int .i64 y4, .int .i64 y5, .string y6, .int .u64 (y7 : Int), .int .i64 y8, .int .i64 y9, .string y10, .int .u64 (y11 : Int)] 39)) := ((hk4.transNo hk5).alloc _).alloc _
  generalize ((w5.alloc (.cells #[.int .i64 x1, .int .i64 x2, .int .i64 x3, .int .i64 x4, .int .i64 x5, .string x6, .int .u64 (x7 : Int), .int .i64 x8, .int .i64 x9, .string x10, .int .u64 (x11 : Int)] 39)).alloc (.cells #[.int .i64 y1, .int .i64 y2, .int .i64 y3, .int .i64 y4, .int .i64 y5, .string y6, .int .u64 (y7 : Int), .int .i64 y8, .int .i64 y9, .string y10, .int .u64 (y11 : Int)] 39)) = W at hbx hby hkW ⊢
  have hk0W := hk03.transNo hkW
  have hsW := hs3.kept hkW
  have hsW' := hs3'.kept hkW
  have hfX := fun wx (hx : Keeps No W wx) => row11 (hx.blk hbx (not_No _))
  have hfY := fun wx (hx : Keeps No W wx) => row11 (hx.blk hby (not_No _))
  clear hs3 hs3' hk4 hk5 hs hs' hk1 hk2 hk3 hk02 hk03 hkW
  refine wp_region_held_drew (S := fun wx => Keeps No W wx) (by kernel_rfl) ((Keeps.refl _ _).drew) (fun hS => ?_)
  refine tk (i := 0) (oi := ⟨some 19, _, _, _, _, _⟩) (v := ?_) rfl (by kernel_rfl) (fun _ _ _ h => h) (by assumption) (by rfl) (fun w hSw => ?_) ?_; rotate_left; (focus (first | (go_simp; done) | (go_simp; with_reducible rfl))); simp only [Act.put, List.setIfInBounds_toArray, List.set_cons_zero, List.set_cons_succ]
  refine tk (i := 1) (oi := ⟨some 20, _, _, _, _, _⟩) (v := ?_) rfl (by kernel_rfl) (fun _ _ _ h => h) (by assumption) (by rfl) (fun w hSw => ?_) ?_; rotate_left; (focus (first | (go_simp; done) | (go_simp; with_reducible rfl))); simp only [Act.put, List.setIfInBounds_toArray, List.set_cons_zero, List.set_cons_succ]
  refine alone (i := 2) (oi := ⟨some 21, _, _, _, _, _⟩) rfl (by kernel_rfl) (by rfl) (fun K hK => ?_); go_simp
  refine (HRX.out _ (hsW.kept hS)).mono ?_
  rintro e w6 ⟨rfl, hk6⟩
  refine hK.out (fun wx => Keeps No W wx) _ _ (fun _ h => h) (hS.transNo hk6) ?_
  clear hK K hS
  intro hS
  refine tk (i := 3) (oi := ⟨some 22, _, _, _, _, _⟩) (v := ?_) rfl (by kernel_rfl) (fun _ _ _ h => h) (by assumption) (by rfl) (fun w hSw => ?_) ?_; rotate_left; (focus (first | (go_simp; done) | (go_simp; with_reducible rfl))); simp only [Act.put, List.setIfInBounds_toArray, List.set_cons_zero, List.set_cons_succ]
  refine tk (i := 4) (oi := ⟨some 23, _, _, _, _, _⟩) (v := ?_) rfl (by kernel_rfl) (fun _ _ _ h => h) (by assumption) (by rfl) (fun w hSw => ?_) ?_; rotate_left; (focus (first | (go_simp; done) | (go_simp; with_reducible rfl))); simp only [Act.put, List.setIfInBounds_toArray, List.set_cons_zero, List.set_cons_succ]
  refine tk (i := 5) (oi := ⟨some 24, _, _, _, _, _⟩) (v := ?_) rfl (by kernel_rfl) (fun _ _ _ h => h) (by assumption) (by rfl) (fun w hSw => ?_) ?_; rotate_left; (focus (first | (go_simp; done) | (go_simp; with_reducible rfl))); simp only [Act.put, List.setIfInBounds_toArray, List.set_cons_zero, List.set_cons_succ]
  refine tk (i := 6) (oi := ⟨some 25, _, _, _, _, _⟩) (v := ?_) rfl (by kernel_rfl) (fun _ _ _ h => h) (by assumption) (by rfl) (fun w hSw => ?_) ?_; rotate_left; (focus (first | (go_simp; done) | (go_simp; with_reducible rfl))); simp only [Act.put, List.setIfInBounds_toArray, List.set_cons_zero, List.set_cons_succ]
  refine alone (i := 7) (oi := ⟨some 26, _, _, _, _, _⟩) rfl (by kernel_rfl) (by rfl) (fun K hK => ?_); go_simp
  refine (HRY.out _ (hsW'.kept hS)).mono ?_
  rintro e w7 ⟨rfl, hk7⟩
  have z7 := hS.size
  have z7' := hk7.size
  refine hK.out (fun wx => Keeps No W wx) _ _ (fun _ h => h) (hS.transNo hk7) ?_
  clear hK K hS
  intro hS
  refine tk (i := 8) (oi := ⟨some 27, _, _, _, _, _⟩) (v := ?_) rfl (by kernel_rfl) (fun _ _ _ h => h) (by assumption) (by rfl) (fun w hSw => ?_) ?_; rotate_left; (focus (first | (go_simp; done) | (go_simp; with_reducible rfl))); simp only [Act.put, List.setIfInBounds_toArray, List.set_cons_zero, List.set_cons_succ]
  refine tk (i := 9) (oi := ⟨some 28, _, _, _, _, _⟩) (v := ?_) rfl (by kernel_rfl) (fun _ _ _ h => h) (by assumption) (by rfl) (fun w hSw => ?_) ?_; rotate_left; (focus (first | (go_simp; done) | (go_simp; with_reducible rfl))); simp only [Act.put, List.setIfInBounds_toArray, List.set_cons_zero, List.set_cons_succ]
  refine tk (i := 10) (oi := ⟨some 29, _, _, _, _, _⟩) (v := ?_) rfl (by kernel_rfl) (fun _ _ _ h => h) (by assumption) (by rfl) (fun w hSw => ?_) ?_; rotate_left; (focus (first | (go_simp; done) | (go_simp; with_reducible rfl))); simp only [Act.put, List.setIfInBounds_toArray, List.set_cons_zero, List.set_cons_succ]
  refine tk (i := 11) (oi := ⟨some 30, _, _, _, _, _⟩) (v := ?_) rfl (by kernel_rfl) (fun _ _ _ h => h) (by assumption) (by rfl) (fun w hSw => ?_) ?_; rotate_left; (focus (first | (go_simp; done) | (go_simp; with_reducible rfl))); simp only [Act.put, List.setIfInBounds_toArray, List.set_cons_zero, List.set_cons_succ]
  refine tk (i := 12) (oi := ⟨some 31, _, _, _, _, _⟩) (v := ?_) rfl (by kernel_rfl) (fun _ _ _ h => h) (by assumption) (by rfl) (fun w hSw => ?_) ?_; rotate_left; (focus (first | (go_simp; done) | (go_simp; with_reducible rfl))); simp only [Act.put, List.setIfInBounds_toArray, List.set_cons_zero, List.set_cons_succ]
  refine tk (i := 15) (oi := ⟨some 34, _, _, _, _, _⟩) (v := ?_) rfl (by kernel_rfl) (fun _ _ _ h => h) (by assumption) (by rfl) (fun w hSw => ?_) ?_; rotate_left; (focus (first | (go_simp; done) | (go_simp; with_reducible rfl))); simp only [Act.put, List.setIfInBounds_toArray, List.set_cons_zero, List.set_cons_succ]
  refine tk (i := 17) (oi := ⟨some 36, _, _, _, _, _⟩) (v := ?_) rfl (by kernel_rfl) (fun _ _ _ h => h) (by assumption) (by rfl) (fun w hSw => ?_) ?_; rotate_left; (focus (first | (go_simp; done) | (go_simp; with_reducible rfl))); simp only [Act.put, List.setIfInBounds_toArray, List.set_cons_zero, List.set_cons_succ]
  refine twoH (i := 13) (j := 14) (oi := ⟨some 32, _, _, _, _, _⟩) (oj := ⟨some 33, _, _, _, _, _⟩) rfl rfl (by kernel_rfl) (by rfl) (by rfl) (fun K hK => ?_) (fun K hK => ?_)
  · go_simp
    refine (hjoin _).mono ?_
    rintro e w8 ⟨rfl, hk8⟩
    have z8 := hk8.size
    refine hK.out (fun wx => Keeps No W wx) _ _ (fun _ h => h) (hS.transNo hk8) ?_
    clear hK K hS
    intro hS
    refine alone (i := 14) (oi := ⟨some 33, _, _, _, _, _⟩) rfl (by kernel_rfl) (by rfl) (fun K hK => ?_); go_simp
    have hown := owns_lit0K (k := 4) w8 W.heap.size 37 (by omega)
    have hz9 : W.heap.size ≤ (w8.alloc (.cells #[] 37)).heap.size := by simp; omega
    refine hK.out (fun wx => Keeps No W wx) _ _ (fun _ h => h) (hS.alloc _) ?_
    clear hK K hS
    intro hS
    refine alone (i := 16) (oi := ⟨some 35, _, _, _, _, _⟩) rfl (by kernel_rfl) (by rfl) (fun K hK => ?_)
    refine wp_app_ownK (.tmp 33) (.tmp 34) 32 rfl W.heap.size 37 _ 4 40 Try.underlying32 val_info rfl (by decide) (by decide) _ 0 _ rfl hown _ n c (l.map Va.cells) rfl (hsW.kept hS) (vals_one l) (by omega) hz9 ?_
    intro v9 w9 hown9 hg9 _
    have hz9' := hg9.size
    rw [List.nil_append, Nat.zero_add] at hown9
    refine hK.out (fun wx => Keeps No W wx) _ _ (fun _ h => h) (hS.grown hg9 (fun k hk hlt => absurd hlt (by have := (hown.lt k hk).1; omega))) ?_
    clear hK K hS
    intro hS
    refine alone (i := 18) (oi := ⟨some 37, _, _, _, _, _⟩) rfl (by kernel_rfl) (by rfl) (fun K hK => ?_)
    refine wp_app_ownK (.tmp 35) (.tmp 36) 32 rfl W.heap.size 37 _ 4 40 Try.underlying32 val_info rfl (by decide) (by decide) _ n _ rfl hown9 _ n' c' (l'.map Va.cells) rfl (hsW'.kept hS) (vals_one l') (by omega) (by omega) ?_
    intro v10 w10 hown10 hg10 _
    rw [← List.flatten_append, ← List.map_append] at hown10
    obtain ⟨a10, c10, rfl, hs10, -⟩ := SlK.ofOwn (by decide) (vals_wide _) hown10
    refine hK.out (fun wx => Keeps No W wx) _ _ (fun _ h => h) (hS.grown hg10 (fun k hk hlt => absurd hlt (by have := (hown9.lt k hk).1; omega))) ?_
    clear hK K hS
    intro hS
    refine alone (i := 19) (oi := ⟨some 38, _, _, _, _, _⟩) rfl (by kernel_rfl) (by rfl) (fun K hK => ?_); go_simp
    refine (HRJ.out _ _ _ _ hs10 (by omega)).mono ?_
    rintro e w11 ⟨rfl, hk11⟩
    refine hK.out (fun wx => Keeps No W wx) _ _ (fun _ h => h) (hS.transNo hk11) ?_
    clear hK K hS
    intro hS
    refine tk (i := 20) (oi := ⟨some 39, _, _, _, _, _⟩) (v := ?_) rfl (by kernel_rfl) (fun _ _ _ h => h) (by assumption) (by rfl) (fun w hSw => ?_) ?_; rotate_left; (focus (first | (go_simp; done) | (go_simp; with_reducible rfl))); simp only [Act.put, List.setIfInBounds_toArray, List.set_cons_zero, List.set_cons_succ]
    refine tk (i := 21) (oi := ⟨some 40, _, _, _, _, _⟩) (v := ?_) rfl (by kernel_rfl) (fun _ _ _ h => h) (by assumption) (by rfl) (fun w hSw => ?_) ?_; rotate_left; (focus (first | (go_simp; done) | (go_simp; with_reducible rfl))); simp only [Act.put, List.setIfInBounds_toArray, List.set_cons_zero, List.set_cons_succ]
    refine tk (i := 22) (oi := ⟨some 4, _, _, _, _, _⟩) (v := ?_) rfl (by kernel_rfl) (fun _ _ _ h => h) (by assumption) (by rfl) (fun w hSw => ?_) ?_; rotate_left; (focus (first | (go_simp; done) | (go_simp; with_reducible rfl))); simp only [Act.put, List.setIfInBounds_toArray, List.set_cons_zero, List.set_cons_succ]
    refine wpAnyH_done (by kernel_rfl) ?_ _
    have hkF := hk0W.transNo hS
    clear hS
    go_wp2_with fail
    go_ret
    exact ⟨rfl, hkF⟩
  · go_simp
    have hown0 := owns_lit0K (k := 4) w7 W.heap.size 37 (by omega)
    refine hK.out (fun wx => Keeps No W wx) _ _ (fun _ h => h) (hS.alloc _) ?_
    clear hK K hS
    intro hS
    refine alone (i := 13) (oi := ⟨some 32, _, _, _, _, _⟩) rfl (by kernel_rfl) (by rfl) (fun K hK => ?_); go_simp
    refine (hjoin _).mono ?_
    rintro e w8 ⟨rfl, hk8⟩
    have hown := hk8.own hown0 (fun _ _ => not_No _)
    have hz9 := (hS.transNo hk8).size
    refine hK.out (fun wx => Keeps No W wx) _ _ (fun _ h => h) (hS.transNo hk8) ?_
    clear hK K hS
    intro hS
    refine alone (i := 16) (oi := ⟨some 35, _, _, _, _, _⟩) rfl (by kernel_rfl) (by rfl) (fun K hK => ?_)
    refine wp_app_ownK (.tmp 33) (.tmp 34) 32 rfl W.heap.size 37 _ 4 40 Try.underlying32 val_info rfl (by decide) (by decide) _ 0 _ rfl hown _ n c (l.map Va.cells) rfl (hsW.kept hS) (vals_one l) (by omega) hz9 ?_
    intro v9 w9 hown9 hg9 _
    have hz9' := hg9.size
    rw [List.nil_append, Nat.zero_add] at hown9
    refine hK.out (fun wx => Keeps No W wx) _ _ (fun _ h => h) (hS.grown hg9 (fun k hk hlt => absurd hlt (by have := (hown.lt k hk).1; omega))) ?_
    clear hK K hS
    intro hS
    refine alone (i := 18) (oi := ⟨some 37, _, _, _, _, _⟩) rfl (by kernel_rfl) (by rfl) (fun K hK => ?_)
    refine wp_app_ownK (.tmp 35) (.tmp 36) 32 rfl W.heap.size 37 _ 4 40 Try.underlying32 val_info rfl (by decide) (by decide) _ n _ rfl hown9 _ n' c' (l'.map Va.cells) rfl (hsW'.kept hS) (vals_one l') (by omega) (by omega) ?_
    intro v10 w10 hown10 hg10 _
    rw [← List.flatten_append, ← List.map_append] at hown10
    obtain ⟨a10, c10, rfl, hs10, -⟩ := SlK.ofOwn (by decide) (vals_wide _) hown10
    refine hK.out (fun wx => Keeps No W wx) _ _ (fun _ h => h) (hS.grown hg10 (fun k hk hlt => absurd hlt (by have := (hown9.lt k hk).1; omega))) ?_
    clear hK K hS
    intro hS
    refine alone (i := 19) (oi := ⟨some 38, _, _, _, _, _⟩) rfl (by kernel_rfl) (by rfl) (fun K hK => ?_); go_simp
    refine (HRJ.out _ _ _ _ hs10 (by omega)).mono ?_
    rintro e w11 ⟨rfl, hk11⟩
    refine hK.out (fun wx => Keeps No W wx) _ _ (fun _ h => h) (hS.transNo hk11) ?_
    clear hK K hS
    intro hS
    refine tk (i := 20) (oi := ⟨some 39, _, _, _, _, _⟩) (v := ?_) rfl (by kernel_rfl) (fun _ _ _ h => h) (by assumption) (by rfl) (fun w hSw => ?_) ?_; rotate_left; (focus (first | (go_simp; done) | (go_simp; with_reducible rfl))); simp only [Act.put, List.setIfInBounds_toArray, List.set_cons_zero, List.set_cons_succ]
    refine tk (i := 21) (oi := ⟨some 40, _, _, _, _, _⟩) (v := ?_) rfl (by kernel_rfl) (fun _ _ _ h => h) (by assumption) (by rfl) (fun w hSw => ?_) ?_; rotate_left; (focus (first | (go_simp; done) | (go_simp; with_reducible rfl))); simp only [Act.put, List.setIfInBounds_toArray, List.set_cons_zero, List.set_cons_succ]
    refine tk (i := 22) (oi := ⟨some 4, _, _, _, _, _⟩) (v := ?_) rfl (by kernel_rfl) (fun _ _ _ h => h) (by assumption) (by rfl) (fun w hSw => ?_) ?_; rotate_left; (focus (first | (go_simp; done) | (go_simp; with_reducible rfl))); simp only [Act.put, List.setIfInBounds_toArray, List.set_cons_zero, List.set_cons_succ]
    refine wpAnyH_done (by kernel_rfl) ?_ _
    have hkF := hk0W.transNo hS
    clear hS
    go_wp2_with fail
    go_ret
    exact ⟨rfl, hkF⟩

set_option maxRecDepth 100000 in
set_option maxHeartbeats 8000000 in
theorem zoneSound_any (a : Option Addr) (n c : Nat) (l : List Va) (op : Int) (v : Va) (hl : ∀ x ∈ l, x.wf) (hop : (Lit.int .i64 op).wf = true) (hv : v.wf) (hvs : v.s.size ≤ 140737488351232) (w : World) (hs : SlK w 4 a n c (l.map Va.cells)) (hn : n ≤ 140737488351232) :
    Calls Try.prog 8 #[.slice a n c, .int .i64 op, v.agg] w fun e w' => e = .returned (.bool true) ∧ Keeps No w w' := by
  have hlen : l.length = n := by simpa using hs.len
  have Hlen := Lib.hid hlen
  have hof := fun wx hs => of_any a n c l wx hs hl
  have hmay := fun wx => may_any (ofZ l) op v (ofZ_wf l hl) hv hop wx
  have hsound := fun (h : l.length ≤ 1000000) x hx hh => zone_sound l h hl op v x hx hh
  have hz := fun x (hx : x ∈ l) wx => zholds_any op x v (hl x hx) hv hop wx
  obtain ⟨X, hX⟩ : ∃ X, X = ofZ l := ⟨_, rfl⟩
  rw [← hX] at hof hmay hsound
  obtain ⟨M, hM⟩ : ∃ M, M = zmay X op v := ⟨_, rfl⟩
  rw [← hM] at hmay hsound
  obtain ⟨H, hH⟩ : ∃ H : Va → Int, ∀ x, H x = zholds op x v := ⟨fun x => zholds op x v, fun _ => rfl⟩
  simp only [← hH] at hz hsound
  have HS := Lib.hid hsound
  have HZ := Lib.hid hz
  clear hX hM hH hsound hz hlen
  obtain ⟨vk, vn, vs, vf⟩ := v
  obtain ⟨x1, x2, x3, ⟨x4, x5, x6, x7⟩, ⟨x8, x9, x10, x11⟩⟩ := X
  unfold Zo.agg Va.agg at hmay
  unfold Zo.agg at hof
  unfold Va.agg
  simp only at hof hmay hvs ⊢
  have Hof := Lib.hid hof
  clear hof
  go_enter Try.func8, Try.ntmps8
  go_upto_region 1 with fail
  have hbV := heap_alloc_new w (.cells #[.int .i64 vk, .int .i64 vn, .string vs, .int .u64 (vf : Int)] 37)
  have hkV : Keeps No w (w.alloc (.cells #[.int .i64 vk, .int .i64 vn, .string vs, .int .u64 (vf : Int)] 37)) := (Keeps.refl No w).alloc _
  generalize (w.alloc (.cells #[.int .i64 vk, .int .i64 vn, .string vs, .int .u64 (vf : Int)] 37)) = W at hbV hkV ⊢
  go_wp2_with fail
  refine (first15_any _).mono ?_
  rintro e w1 ⟨rfl, hk1⟩
  have hk01 := hkV.transNo hk1
  have hb1 := hk1.blk hbV (not_No _)
  go_wp2_with fail
  refine (long_any a n c l _ (hs.kept hk01) hn).mono ?_
  rintro e w2 ⟨rfl, hk2⟩
  have hk02 := hk01.transNo hk2
  have hb2 := hk2.blk hb1 (not_No _)
  cases hb : longB l
  case true =>
    clear hb
    go_wp2_with fail
    go_ret
    exact ⟨rfl, hk02⟩
  have hsm := longB_small hb
  obtain ⟨a0, a1, a2, a3⟩ := row4 hb2
  clear hb
  by_cases hbig : vs.size ≤ 200
  case neg =>
    go_wp2_with fail
    go_ret
    exact ⟨rfl, hk02⟩
  have hn200 : n ≤ 200 := by have := hsm.1; have := Hlen.out; omega
  go_wp2_with fail
  refine (Hof.out _ (hs.kept hk02)).mono ?_
  rintro e w3 ⟨rfl, hk3⟩
  go_upto_region 6 with fail
  have hbZ := heap_alloc_new w3 (.cells #[.int .i64 x1, .int .i64 x2, .int .i64 x3, .int .i64 x4, .int .i64 x5, .string x6, .int .u64 (x7 : Int), .int .i64 x8, .int .i64 x9, .string x10, .int .u64 (x11 : Int)] 39)
  have hkZ : Keeps No w3 (w3.alloc (.cells #[.int .i64 x1, .int .i64 x2, .int .i64 x3, .int .i64 x4, .int .i64 x5, .string x6, .int .u64 (x7 : Int), .int .i64 x8, .int .i64 x9, .string x10, .int .u64 (x11 : Int)] 39)) := (Keeps.refl No w3).alloc _
  generalize (w3.alloc (.cells #[.int .i64 x1, .int .i64 x2, .int .i64 x3, .int .i64 x4, .int .i64 x5, .string x6, .int .u64 (x7 : Int), .int .i64 x8, .int .i64 x9, .string x10, .int .u64 (x11 : Int)] 39)) = w4 at hbZ hkZ ⊢
  have hb4 := (hk3.transNo hkZ).blk hb2 (not_No _)
  have hk04 := (hk02.transNo hk3).transNo hkZ
  clear a0 a1 a2 a3 hb1 hb2 hk01 hk02 hk1 hk2 hkV hbV
  obtain ⟨a0, a1, a2, a3⟩ := row4 hb4
  obtain ⟨z0, z1, z2, z3, z4, z5, z6, z7, z8, z9, z10⟩ := row11 hbZ
  go_wp2_with fail
  refine (hmay _).mono ?_
  rintro e w5 ⟨rfl, hk5⟩
  have hb5 := hk5.blk hb4 (not_No _)
  have hk05 := hk04.transNo hk5
  clear a0 a1 a2 a3 z0 z1 z2 z3 z4 z5 z6 z7 z8 z9 z10 hmay hbZ hkZ
  go_wp2_with fail
  go_loopg [9, 30] n (fun q v9 v30 wr => ∃ (b : Bool) (j : Nat), v9 = .bool b ∧ v30 = .int .i64 (j : Int) ∧ j ≤ n ∧ q = n - j ∧ (b = true → ∃ x, x ∈ l ∧ H x = 1) ∧ Keeps No w5 wr)
  case atStart => exact ⟨false, 0, rfl, rfl, Nat.zero_le _, rfl, fun h => by simp at h, Keeps.refl _ _⟩
  case round =>
    obtain ⟨b, j, rfl, rfl, hj, hq, hbx, hkr⟩ := hrel
    have Hq := Lib.hid hq
    have Hbx := Lib.hid hbx
    clear hq hbx
    by_cases hlt : j < n
    · have hjl : j < l.length := by rw [Hlen.out]; exact hlt
      obtain ⟨x, hx⟩ : ∃ x, x = l[j] := ⟨_, rfl⟩
      have hxl : x ∈ l := by rw [hx]; exact List.getElem_mem hjl
      have hzx := HZ.out x hxl
      have hsr := hs.kept (hk05.transNo hkr)
      have hix := hsr.ix (P := Try.prog) Try.underlying32 (by kernel_rfl) hlt .i64
      have hld := (hsr.load (P := Try.prog) Try.underlying37 rfl (by kernel_rfl) hlt).1
      have hb : (l.map Va.cells).getD j [] = x.cells := by rw [hx]; simp [hjl]
      rw [hb] at hld
      have hxw := (hl x hxl).2.2
      obtain ⟨T, hT⟩ : ∃ T, T = H x := ⟨_, rfl⟩
      rw [← hT] at hzx
      have HT := Lib.hid hT
      have Hxl := Lib.hid hxl
      clear hx hb hT hxl
      obtain ⟨k, nn, s, f⟩ := x
      unfold Va.cells at hld
      unfold Va.agg at hzx
      simp only at hld hzx
      go_upto_region 11 with (refine wpList_loadV rfl 37 _ rfl _ rfl _ hld ?_)
      have hbX := heap_alloc_new wr (.cells #[.int .i64 k, .int .i64 nn, .string s, .int .u64 (f : Int)] 37)
      have hkX : Keeps No wr (wr.alloc (.cells #[.int .i64 k, .int .i64 nn, .string s, .int .u64 (f : Int)] 37)) := (Keeps.refl No wr).alloc _
      generalize (wr.alloc (.cells #[.int .i64 k, .int .i64 nn, .string s, .int .u64 (f : Int)] 37)) = w6 at hbX hkX ⊢
      obtain ⟨a0, a1, a2, a3⟩ := row4 hbX
      obtain ⟨b0, b1, b2, b3⟩ := row4 ((hkr.transNo hkX).blk hb5 (not_No _))
      have hkr6 := hkr.transNo hkX
      cases b
      · go_wp2_with fail
        refine (hzx _).mono ?_
        rintro e w7 ⟨rfl, hk7⟩
        by_cases h1 : T = 1
        · have e1 : (T == 1) = true := by simp [h1]
          have H1 := Lib.hid h1
          clear h1
          go_wp2_with fail
          go_roundg (n - (j + 1))
          case rel => exact ⟨true, j + 1, rfl, by go_num, by omega, rfl, fun _ => ⟨_, Hxl.out, by rw [← HT.out]; exact H1.out⟩, hkr6.transNo hk7⟩
          case measure => have := Hq.out; omega
        · have e1 : (T == 1) = false := by simp [h1]
          clear h1
          go_wp2_with fail
          go_roundg (n - (j + 1))
          case rel => exact ⟨false, j + 1, rfl, by go_num, by omega, rfl, fun h => by simp at h, hkr6.transNo hk7⟩
          case measure => have := Hq.out; omega
      · go_wp2_with fail
        go_roundg (n - (j + 1))
        case rel => exact ⟨true, j + 1, rfl, by go_num, by omega, rfl, fun _ => Hbx.out (by first | trivial | rfl), hkr6⟩
        case measure => have := Hq.out; omega
    · have hM : M = true ∨ (M = false ∧ b = false) := by
        cases b
        · cases M
          · exact .inr ⟨rfl, rfl⟩
          · exact .inl rfl
        · obtain ⟨x, hx, h1⟩ := Hbx.out (by first | trivial | rfl)
          exact .inl (HS.out (by omega) x hx h1)
      rcases hM with rfl | ⟨rfl, rfl⟩
      all_goals
        go_wp2_with fail
        go_ret
        exact ⟨rfl, hk05.transNo hkr⟩
end Go.Proofs.Ytmhmpnbcjcmnnaa
