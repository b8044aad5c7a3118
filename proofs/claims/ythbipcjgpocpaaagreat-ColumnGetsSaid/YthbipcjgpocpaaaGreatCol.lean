import Derived.Test.YthbipcjgpocpaaaGreatMemC
import Derived.Test.YthbipcjgpocpaaaGreatPlainCol
import Derived.Deep.DeepCutAuto
import Derived.Deep.CutBlock
/- Layer 14: the walks of right and full: closures, IndexFunc, ContainsFunc, DeleteFunc. -/
namespace Go.Proofs.YthbipcjgpocpaaaGreat
open Go.RowKit
set_option linter.unusedSimpArgs false
set_option linter.unusedVariables false
set_option maxRecDepth 100000

theorem cr1_any (v : Va) (hv : v.wf) (k : Int) (bk : Nat) (w : World) (hc : w.cell? ⟨bk, 0, none⟩ = some (.int .i64 k)) :
    Calls Tryz.prog 45 #[v.agg, .pointer (some ⟨bk, 0, none⟩)] w fun e w' => e = .returned (.bool (!okC k v)) ∧ Keeps No w w' := by
  have hr := fun wx => right_any v hv wx
  obtain ⟨r, hrr⟩ : ∃ r, r = rightV v := ⟨_, rfl⟩
  have hok : (!okC k v) = (!r || (!decide (v.k = k) && !decide (v.k = 0))) := by rw [hrr]; unfold okC; cases rightV v <;> simp
  rw [← hrr] at hr
  rw [hok]
  clear hok hrr hv
  obtain ⟨vk, vn, vs, vf⟩ := v
  unfold Va.agg at hr ⊢
  simp only at hr ⊢
  go_enter Tryz.func45, Tryz.ntmps45
  go_wp2_with fail
  refine (hr _).mono ?_
  rintro e w1 ⟨rfl, hk1⟩
  have hk01 : Keeps No w w1 := ((Keeps.refl No w).alloc _).transNo hk1
  obtain ⟨c0, c1, c2, c3⟩ := row4 (hk1.blk (heap_alloc_new w (.cells #[.int .i64 vk, .int .i64 vn, .string vs, .int .u64 (vf : Int)] 32)) (not_No _))
  have hck := hk01.cell hc (not_No _)
  clear hr hk1
  cases r
  · go_wp2_with fail
    go_ret
    exact ⟨rfl, hk01⟩
  by_cases h1 : vk = k
  · have e1 : (vk != k) = false := by simp [h1]
    have H1 := Lib.hid h1
    clear h1
    go_wp2_with fail
    go_ret
    exact ⟨ret_bool (by simp [H1.out]), hk01⟩
  have e1 : (vk != k) = true := by simp [h1]
  have H1 := Lib.hid h1
  clear h1
  by_cases h2 : vk = 0
  · have e2 : (vk != 0) = false := by simp [h2]
    have H2 := Lib.hid h2
    clear h2
    go_wp2_with fail
    go_ret
    exact ⟨ret_bool (by simp [H1.out, H2.out]), hk01⟩
  have e2 : (vk != 0) = true := by simp [h2]
  have H2 := Lib.hid h2
  clear h2
  go_wp2_with fail
  go_ret
  exact ⟨ret_bool (by simp [H1.out, H2.out]), hk01⟩

theorem cf1_any (v : Va) (w : World) :
    Calls Tryz.prog 55 #[v.agg] w fun e w' => e = .returned (.bool (decide (v.k = 0))) ∧ Keeps No w w' := by
  obtain ⟨vk, vn, vs, vf⟩ := v
  unfold Va.agg
  simp only
  obtain ⟨r, hr⟩ : ∃ r, r = decide (vk = 0) := ⟨_, rfl⟩
  have e1 : (vk == 0) = r := by rw [hr]; by_cases h : vk = 0 <;> simp [h]
  rw [← hr]
  clear hr
  go_enter Tryz.func55, Tryz.ntmps55
  go_wp2_with fail
  go_ret
  exact ⟨by simp [e1], (Keeps.refl No w).alloc _⟩

/-- What IndexFunc says: the first that p takes; -1: there is none. -/
def IdxC (p : Va → Bool) (L : List Va) (w : World) (e : Ending) (w' : World) : Prop :=
  ∃ r : Int, e = .returned (.int .i64 r) ∧ Keeps No w w' ∧ ((r = -1 ∧ L.any p = false) ∨ ∃ m : Nat, r = (m : Int) ∧ m < L.length ∧ p (L.getD m Va.zero) = true ∧ (L.take m).any p = false)
theorem val_size : (Tryz.prog.info? 32).map (·.size) = some 4 := by kernel_rfl
theorem vget (L : List Va) {m : Nat} (h : m < L.length) : (L.map Va.cells).getD m [] = (L.getD m Va.zero).cells := by simp [h]

set_option maxHeartbeats 1000000 in
theorem vindex_any (fn : Nat) (bd : Array Value) (hbd : (fn = 55 ∧ bd = #[]) ∨ (fn = 45 ∧ ∃ q, bd = #[q])) (p : Va → Bool) (a : Option Addr) (n c : Nat) (L : List Va) (w : World) (hs : SlK w 4 a n c (L.map Va.cells))
    (hcl : ∀ v ∈ L, ∀ wx, Keeps No w wx → Calls Tryz.prog fn (#[v.agg] ++ bd) wx fun e w' => e = .returned (.bool (p v)) ∧ Keeps No wx w') :
    Calls Tryz.prog 68 #[.slice a n c, .func (.func fn) #[] bd] w (IdxC p L w) := by
  have hlen : L.length = n := by simpa using hs.len
  have hwm := hs.max
  have hwl := hs.le
  unfold maxLen at hwm
  have Hlen := Lib.hid hlen
  clear hlen
  rcases hbd with ⟨rfl, rfl⟩ | ⟨rfl, q, rfl⟩
  all_goals
    simp only [Array.append_empty, List.append_toArray, List.cons_append, List.nil_append] at hcl
    go_enter Tryz.func68, Tryz.ntmps68
    go_wp2_with fail
    go_loopg [8] n (fun q i' wr => ∃ m : Nat, m ≤ n ∧ q = n - m ∧ i' = .int .i64 (m : Int) ∧ (L.take m).any p = false ∧ Keeps No w wr)
    case atStart => exact ⟨0, Nat.zero_le _, rfl, rfl, rfl, Keeps.refl _ _⟩
    case round =>
      obtain ⟨m, hm, hq, rfl, hmf, hkr⟩ := hrel
      have Hq := Lib.hid hq
      have Hmf := Lib.hid hmf
      clear hq hmf
      by_cases hlt : m < n
      · have hlt' : m < L.length := by rw [Hlen.out]; exact hlt
        have hsr := hs.kept hkr
        have hix := hsr.ix (P := Tryz.prog) Tryz.underlying25 val_size hlt .i64
        obtain ⟨hld, _⟩ := hsr.load (P := Tryz.prog) (ty := 32) Tryz.underlying32 rfl val_size hlt
        rw [vget L hlt'] at hld
        obtain ⟨x, hx⟩ : ∃ x, x = L.getD m Va.zero := ⟨_, rfl⟩
        rw [← hx] at hld
        have hxm : x ∈ L := by rw [hx]; simp [hlt']
        have hcx := hcl x hxm wr hkr
        have hpx : (L.take (m + 1)).any p = p x := by rw [List.take_succ_eq_append_getElem hlt', List.any_append, Hmf.out, hx]; simp [hlt']
        have Hpx := Lib.hid hpx
        have HX := Lib.hid hx
        clear hx hxm hpx hsr
        cases hb : p x
        · rw [hb] at hcx
          have Hb := Lib.hid hb
          clear hb
          go_wp2_with (refine wpList_loadV (op := ⟨some 15, _, _, _, _, _⟩) rfl 32 (.tmp 14) rfl _ rfl _ hld ?_)
          refine hcx.mono ?_
          rintro e w2 ⟨rfl, hk2⟩
          go_wp2_with fail
          go_roundg (n - (m + 1))
          case measure => have := Hq.out; omega
          case rel => exact ⟨m + 1, by omega, rfl, by go_num, by rw [Hpx.out, Hb.out], hkr.transNo hk2⟩
        · rw [hb] at hcx
          have Hb := Lib.hid hb
          clear hb
          go_wp2_with (refine wpList_loadV (op := ⟨some 15, _, _, _, _, _⟩) rfl 32 (.tmp 14) rfl _ rfl _ hld ?_)
          refine hcx.mono ?_
          rintro e w2 ⟨rfl, hk2⟩
          go_wp2_with fail
          go_ret
          exact ⟨m, rfl, hkr.transNo hk2, .inr ⟨m, rfl, hlt', by rw [← HX.out]; exact Hb.out, Hmf.out⟩⟩
      · obtain rfl : n = m := by omega
        go_wp2_with fail
        go_ret
        exact ⟨-1, rfl, hkr, .inl ⟨rfl, by have := Hmf.out; rw [← Hlen.out, List.take_length] at this; exact this⟩⟩

theorem vcontains_any (fn : Nat) (bd : Array Value) (hbd : (fn = 55 ∧ bd = #[]) ∨ (fn = 45 ∧ ∃ q, bd = #[q])) (p : Va → Bool) (a : Option Addr) (n c : Nat) (L : List Va) (w : World) (hs : SlK w 4 a n c (L.map Va.cells))
    (hcl : ∀ v ∈ L, ∀ wx, Keeps No w wx → Calls Tryz.prog fn (#[v.agg] ++ bd) wx fun e w' => e = .returned (.bool (p v)) ∧ Keeps No wx w') :
    Calls Tryz.prog 44 #[.slice a n c, .func (.func fn) #[] bd] w fun e w' => e = .returned (.bool (L.any p)) ∧ Keeps No w w' := by
  go_enter Tryz.func44, Tryz.ntmps44
  go_wp2_with fail
  refine (vindex_any fn bd hbd p a n c L w hs hcl).mono ?_
  rintro e w1 ⟨r, rfl, hk1, ⟨rfl, hf⟩ | ⟨m, rfl, hm, hp, _⟩⟩
  · have Hf := Lib.hid hf
    clear hf
    go_wp2_with fail
    go_ret
    exact ⟨by rw [Hf.out]; rfl, hk1⟩
  · have ht : L.any p = true := List.any_eq_true.2 ⟨_, by simp [hm], hp⟩
    have Ht := Lib.hid ht
    clear ht hp
    go_wp2_with fail
    go_ret
    exact ⟨by rw [Ht.out]; simp, hk1⟩

theorem cright_any (k : Int) (a : Option Addr) (n c : Nat) (L : List Va) (w : World) (hs : SlK w 4 a n c (L.map Va.cells)) (hL : ∀ v ∈ L, v.wf) :
    Calls Tryz.prog 22 #[.int .i64 k, .slice a n c] w fun e w' => e = .returned (.bool (rightC k L)) ∧ Keeps No w w' := by
  have hlen : L.length = n := by simpa using hs.len
  have hR : rightC k L = (decide (1 ≤ k ∧ k ≤ 4 ∧ n ≤ 256) && !L.any (fun v => !okC k v)) := by
    unfold rightC; rw [hlen]; congr 1; rw [List.not_any_eq_all_not]; simp
  obtain ⟨R, hRR⟩ : ∃ R, R = rightC k L := ⟨_, rfl⟩
  rw [← hRR] at hR ⊢
  have HR := Lib.hid hR
  have hwm := hs.max
  have hwl := hs.le
  unfold maxLen at hwm
  clear hR hRR hlen
  have hkA : Keeps No w (w.alloc (.cells #[.int .i64 k] 24)) := (Keeps.refl No w).alloc _
  have hc0 := cell_of_row _ w.heap.size 0 _ _ (0, 0) (heap_alloc_new w (.cells #[.int .i64 k] 24))
  have hcall := vcontains_any 45 #[.pointer (some ⟨w.heap.size, 0, none⟩)] (.inr ⟨rfl, _, rfl⟩) (fun v => !okC k v) a n c L _ (hs.kept hkA) (fun v hv wx hkx => cr1_any v (hL v hv) k w.heap.size wx (hkx.cell hc0 (not_No _)))
  generalize L.any (fun v => !okC k v) = A at hcall HR
  go_enter Tryz.func22, Tryz.ntmps22
  by_cases h1 : k < 1
  · go_wp2_with fail
    go_ret
    exact ⟨ret_bool (by rw [HR.out, decide_eq_false (by omega)]; rfl), hkA⟩
  by_cases h4 : 4 < k
  · go_wp2_with fail
    go_ret
    exact ⟨ret_bool (by rw [HR.out, decide_eq_false (by omega)]; rfl), hkA⟩
  by_cases hn : 256 < n
  · go_wp2_with fail
    go_ret
    exact ⟨ret_bool (by rw [HR.out, decide_eq_false (by omega)]; rfl), hkA⟩
  go_wp2_with fail
  refine hcall.mono ?_
  rintro e w1 ⟨rfl, hk1⟩
  go_wp2_with fail
  go_ret
  exact ⟨ret_bool (by rw [HR.out, decide_eq_true (by omega)]; simp), hkA.transNo hk1⟩

theorem vclone_any (a : Option Addr) (n c : Nat) (L : List Va) (w : World) (hs : SlK w 4 a n c (L.map Va.cells)) (hn : n ≤ 1000000) :
    Calls Tryz.prog 54 #[.slice a n c] w fun e w' => ∃ v, e = .returned v ∧ w'.ownsRow w.heap.size 32 4 v L.length (L.map Va.cells).flatten ∧ Keeps No w w' := by
  have hlen : L.length = n := by simpa using hs.len
  have hq := fun wx => Lib.run_eql_slice_nil (P := Tryz.prog) wx 25 32 a n c 0 0 Tryz.underlying25
  rw [hlen]
  cases a with
  | none =>
    obtain ⟨rfl, rfl⟩ := hs.nil rfl
    have hb : L = [] := List.eq_nil_of_length_eq_zero hlen
    subst hb
    go_enter Tryz.func54, Tryz.ntmps54
    go_wp2_with fail
    go_ret
    exact ⟨_, rfl, World.ownsRow_nil _ _ _ _, Keeps.refl _ _⟩
  | some ad =>
    have Hlen := Lib.hid hlen
    clear hlen
    go_enter Tryz.func54, Tryz.ntmps54
    go_wp2_with (at_builtin; refine app_ownK rfl _ _ 25 rfl w.heap.size 32 _ 4 40 Tryz.underlying25 val_info rfl (by decide) (by decide) _ 0 [] rfl (owns_lit0K w _ _ ?hB) _ _ _ _ rfl (hs.kept ((Keeps.refl _ _).alloc _)) ?h1 ?hb ?hB2 ?_)
    case hB => exact Nat.le_refl _
    case h1 => exact vals_one L
    case hb => omega
    case hB2 => simp
    intro v w1 hown hg _
    go_wp2_with fail
    go_ret
    exact ⟨_, rfl, by simpa using hown, ((Keeps.refl No w).alloc _).grown hg (fun k hk hlt => absurd hlt (by simp [Value.ownBlock] at hk; omega))⟩

theorem full_hit (L : List Va) {m : Nat} (hm : m < L.length) (h : (L[m]).k = 0) : fullC (L.take (m + 1)) = fullC (L.take m) := by
  unfold fullC; rw [List.take_succ_eq_append_getElem hm, List.filter_append]; simp [h]
theorem full_miss (L : List Va) {m : Nat} (hm : m < L.length) (h : (L[m]).k ≠ 0) : fullC (L.take (m + 1)) = fullC (L.take m) ++ [L[m]] := by
  unfold fullC; rw [List.take_succ_eq_append_getElem hm, List.filter_append]; simp [h]
theorem full_none {L : List Va} (h : L.any (fun v => decide (v.k = 0)) = false) : fullC L = L := by
  unfold fullC
  rw [List.filter_eq_self]
  intro v hv
  have := List.any_eq_false.1 h v hv
  simpa using this
theorem va_oneC (v : Va) : v.cells.toArray.all (·.oneCell') = true := by simp [Va.cells, Value.oneCell']

set_option maxHeartbeats 1000000 in
theorem vdelete_any (base : Nat) (v : Value) (L : List Va) (w : World) (hown : w.ownsRow base 32 4 v L.length (L.map Va.cells).flatten) :
    Calls Tryz.prog 53 #[v, .func (.func 55) #[] #[]] w fun e w' =>
      ∃ v', e = .returned v' ∧ w'.ownsRow base 32 4 v' (fullC L).length ((fullC L).map Va.cells).flatten ∧ Keeps (fun g => v.ownBlock = some g) w w' := by
  obtain ⟨a, c, rfl, hs, ha⟩ := SlK.ofOwn (k := 4) (by decide) (vals_wide L) hown
  have hwm := hs.max
  have hwl := hs.le
  unfold maxLen at hwm
  have hidx := vindex_any 55 #[] (.inl ⟨rfl, rfl⟩) (fun v => decide (v.k = 0)) a _ c L w hs (fun v _ wx _ => cf1_any v wx)
  go_enter Tryz.func53, Tryz.ntmps53
  go_wp2_with fail
  refine hidx.mono ?_
  rintro e w1 ⟨r, rfl, hk1, hr⟩
  clear hidx
  rcases hr with ⟨rfl, hf⟩ | ⟨m, rfl, hm, hp, hf⟩
  · have Hf := Lib.hid (full_none hf)
    clear hf
    go_wp2_with fail
    go_ret
    exact ⟨_, rfl, by rw [Hf.out]; exact hk1.own hown (fun _ _ => not_No _), hk1.no⟩
  obtain ⟨g, hg, _, hgl⟩ := ha _ (hs.isSome hm)
  have hsome := hs.isSome hm
  rw [hg] at hsome
  subst hsome
  have hfm : fullC (L.take (m + 1)) = L.take m := by
    have e0 : L.getD m Va.zero = L[m] := by simp [hm]
    rw [e0] at hp
    rw [full_hit L hm (by simpa using hp), full_none hf]
  have Hf := Lib.hid hfm
  have hk1' : Keeps (fun j => j = g) w w1 := hk1.no
  clear hf hg ha hp hfm
  have q1 : ((m : Int) == -1) = false := by rw [beq_eq_false_iff_ne]; omega
  go_wp2_with fail
  go_loopg [5, 6] (L.length - (m + 1)) (fun q s5 s6 wr => ∃ (k j : Nat) (R : List Va), k < j ∧ j ≤ L.length ∧ q = L.length - j ∧ R.length = L.length ∧ s5 = .int .i64 (k : Int) ∧ s6 = .int .i64 (j : Int) ∧ R.take k = fullC (L.take j) ∧ R.drop j = L.drop j ∧
      wr.ownsRow base 32 4 (.slice (some ⟨g, 0, none⟩) L.length c) L.length (R.map Va.cells).flatten ∧ Keeps (fun j => j = g) w wr)
  case atStart => exact ⟨m, m + 1, L, by omega, by omega, rfl, rfl, rfl, by go_num, Hf.out.symm, rfl, hk1.own hown (fun _ _ => not_No _), hk1'⟩
  case round =>
    obtain ⟨k, j, R, hkj, hj, hq, hRl, rfl, rfl, hRk, hRd, hor, hkr⟩ := hrel
    have Hq := Lib.hid hq
    have HRl := Lib.hid hRl
    have HRk := Lib.hid hRk
    have HRd := Lib.hid hRd
    clear hq hRl hRk hRd
    obtain ⟨ar, cr, hre, hsr, _⟩ := SlK.ofOwn (k := 4) (by decide) (vals_wide R) hor
    obtain ⟨rfl, rfl⟩ : some ⟨g, 0, none⟩ = ar ∧ c = cr := by
      simp only [Value.slice.injEq] at hre
      exact ⟨hre.1, hre.2.2⟩
    clear hre
    have hgr := (hor.lt g rfl).2
    by_cases hlt : j < L.length
    · have hltR : j < R.length := by rw [HRl.out]; exact hlt
      have hix := hsr.ix (P := Tryz.prog) Tryz.underlying25 val_size hlt .i64
      obtain ⟨hld, _⟩ := hsr.load (P := Tryz.prog) (ty := 32) Tryz.underlying32 rfl val_size hlt
      obtain ⟨x, hx⟩ : ∃ x, x = R[j] := ⟨_, rfl⟩
      have hxc : (R.map Va.cells).getD j [] = x.cells := by rw [hx]; simp [hltR]
      have hxL : L[j] = x := by
        have h1 : (R.drop j)[0]? = (L.drop j)[0]? := by rw [HRd.out]
        rw [List.getElem?_drop, List.getElem?_drop, Nat.add_zero, List.getElem?_eq_getElem hltR, List.getElem?_eq_getElem hlt] at h1
        rw [hx]; injection h1 with h1; exact h1.symm
      have hd1 : R.drop (j + 1) = L.drop (j + 1) := by
        have h2 := congrArg (List.drop 1) HRd.out
        rwa [List.drop_drop, List.drop_drop] at h2
      rw [hxc] at hld
      simp only [Option.getD_some, Addr.add_lit, Nat.zero_add] at hix hld
      have HXL := Lib.hid hxL
      have HD1 := Lib.hid hd1
      clear hxc hx hxL hd1
      have hixk := hsr.ix (P := Tryz.prog) Tryz.underlying25 val_size (i := k) (by omega) .i64
      simp only [Option.getD_some, Addr.add_lit, Nat.zero_add] at hixk
      obtain ⟨xk, xn, xs, xf⟩ := x
      unfold Va.cells at hld
      simp only at hld
      have hkN : Keeps No wr (wr.alloc (.cells #[.int .i64 xk, .int .i64 xn, .string xs, .int .u64 (xf : Int)] 32)) := (Keeps.refl No wr).alloc _
      have hbN := heap_alloc_new wr (.cells #[.int .i64 xk, .int .i64 xn, .string xs, .int .u64 (xf : Int)] 32)
      have hk05 := hkr.transNo hkN
      have hor5 := own_keepB hor hkN (not_No _)
      go_wp2_with (refine wpList_loadV (op := ⟨some 25, _, _, _, _, _⟩) rfl 32 (.tmp 24) rfl _ rfl _ hld ?_)
      refine (cf1_any ⟨xk, xn, xs, xf⟩ _).mono ?_
      rintro e w6 ⟨rfl, hk6⟩
      have hl6 := (load_cells (P := Tryz.prog) (ty := 32) (k := 4) Tryz.underlying32 rfl val_size ⟨wr.heap.size, 0, none⟩ [.int .i64 xk, .int .i64 xn, .string xs, .int .u64 (xf : Int)] rfl (fun j v hj => by
        have hb6 := hk6.blk hbN (not_No _)
        rw [Addr.add_lit, Nat.zero_add, cell_of_row _ wr.heap.size _ _ _ (0, 0) hb6]
        simpa using hj)).1
      have hor6 := own_keepB hor5 hk6 (not_No _)
      have hk06 := hk05.transNo hk6
      by_cases hx0 : xk = 0
      · have hd : decide (xk = 0) = true := decide_eq_true hx0
        simp only [hd]
        have HX0 := Lib.hid hx0
        clear hx0 hd
        go_wp2_with fail
        go_roundg (L.length - (j + 1))
        case measure => have := Hq.out; omega
        case rel => exact ⟨k, j + 1, R, by omega, by omega, rfl, HRl.out, rfl, by go_num, by rw [HRk.out, full_hit L hlt (by rw [HXL.out]; exact HX0.out)], HD1.out, hor6, hk06⟩
      · have hd : decide (xk = 0) = false := decide_eq_false hx0
        simp only [hd]
        have HX0 := Lib.hid hx0
        clear hx0 hd
        go_wp2_with (first | (refine wpList_storeOwn (o := ⟨none, _, _, _, _, _⟩) rfl 32 (.tmp 33) (.tmp 32) rfl base 32 4 g L.length c (R.map Va.cells) hor6 (vals_wide R) k (by omega) (by rw [List.length_map, HRl.out]) (Va.cells ⟨xk, xn, xs, xf⟩).toArray rfl (by rw [Addr.add_lit, Nat.zero_add]; rfl) rfl val_size (va_oneC _) ?_) | (refine wpList_loadV (op := ⟨some 32, _, _, _, _, _⟩) rfl 32 (.tmp 7) rfl _ rfl _ hl6 ?_))
        intro w7 hown7 hz7 hk7
        go_wp2_with fail
        go_roundg (L.length - (j + 1))
        case measure => have := Hq.out; omega
        case rel =>
          refine ⟨k + 1, j + 1, R.set k ⟨xk, xn, xs, xf⟩, by omega, by omega, rfl, by rw [List.length_set, HRl.out], by go_num, by go_num, ?_, ?_, ?_, hk06.trans hk7 (fun _ _ h => h)⟩
          · rw [full_miss L hlt (by rw [HXL.out]; exact HX0.out), ← HRk.out, HXL.out, List.take_succ_eq_append_getElem (by rw [List.length_set, HRl.out]; omega), List.take_set_of_le (by omega)]
            simp
          · rw [List.drop_set, if_pos (by omega)]; exact HD1.out
          · simpa [List.map_set] using hown7
    · obtain rfl : L.length = j := by omega
      have hkn : k < L.length := by omega
      obtain ⟨hsl1, hsl1'⟩ := hsr.from_ (P := Tryz.prog) Tryz.underlying25 val_size hkn .i64
      obtain ⟨hsl2, hsl2'⟩ := hsr.upto (P := Tryz.prog) Tryz.underlying25 val_size (k := k) (by omega) .i64
      have hz4 : ∀ v ∈ (Value.agg #[.int .i64 0, .int .i64 0, .string ByteArray.empty, .int .u64 0]).cells, v.oneCell' = true := by intro v hv; simp [Value.cells] at hv; rcases hv with rfl | rfl | rfl | rfl <;> rfl
      have hzs : (Value.agg #[.int .i64 0, .int .i64 0, .string ByteArray.empty, .int .u64 0]).cells.size = 4 := rfl
      obtain ⟨w8, hrun8, hown8, hz8, hk8⟩ := run_clear_own (P := Tryz.prog) wr 25 32 0 base 4 g L.length c k (c - k) 40 _ _ Tryz.underlying25 val_info hzs (by decide) hz4 hor (by omega)
      have Hz8 := Lib.hid hz8
      clear hz4 hzs hz8
      go_wp2_with fail
      go_ret
      have hfin : fullC L = R.take k := by have := HRk.out; rw [List.take_length] at this; exact this.symm
      refine ⟨_, rfl, ?_, (hkr.trans hk8 (fun _ _ h => h)).mono (fun j _ h => by rw [h]; rfl)⟩
      rw [hfin, List.length_take, HRl.out, Nat.min_eq_left (by omega)]
      have e1 : (R.map Va.cells).flatten.take (k * 4) = ((R.take k).map Va.cells).flatten := by
        have hd : R = R.take k ++ R.drop k := (List.take_append_drop k R).symm
        have hl : ((R.take k).map Va.cells).flatten.length = k * 4 := by
          rw [flat_length _ (vals_wide (R.take k)), List.length_map, List.length_take, HRl.out, Nat.min_eq_left (by omega)]
        conv => lhs; rw [hd, List.map_append, List.flatten_append, List.take_append_of_le_length (by omega), List.take_of_length_le (by omega)]
      rw [← e1]
      exact hown8

theorem cfull_any (a : Option Addr) (n c : Nat) (L : List Va) (w : World) (hs : SlK w 4 a n c (L.map Va.cells)) (hn : n ≤ 1000000) :
    Calls Tryz.prog 24 #[.slice a n c] w fun e w' => ∃ v, e = .returned v ∧ w'.ownsRow w.heap.size 32 4 v (fullC L).length ((fullC L).map Va.cells).flatten ∧ Keeps No w w' := by
  go_enter Tryz.func24, Tryz.ntmps24
  go_wp2_with fail
  refine (vclone_any a n c L w hs hn).mono ?_
  rintro e w1 ⟨v1, rfl, hown1, hk1⟩
  go_wp2_with fail
  refine (vdelete_any w.heap.size v1 L w1 hown1).mono ?_
  rintro e w2 ⟨v2, rfl, hown2, hk2⟩
  go_wp2_with fail
  go_ret
  exact ⟨_, rfl, hown2, hk1.trans hk2 (fun i hi h => absurd hi (by have := (hown1.lt i h).1; omega))⟩
end Go.Proofs.YthbipcjgpocpaaaGreat
/- Layer 14: the walks of the rests: plain, numbers, texts. -/
namespace Go.Proofs.YthbipcjgpocpaaaGreat
open Go.RowKit
set_option linter.unusedSimpArgs false
set_option linter.unusedVariables false
set_option maxRecDepth 100000

theorem own_some {w : World} {base : Nat} {e : TypeId} {v : Value} {n : Nat} {xs : List Value} (h : w.ownsRow base e 1 v n xs) (hn : 0 < n) : ∃ g c, v = .slice (some ⟨g, 0, none⟩) n c := by
  rcases h.2 with ⟨_, h0⟩ | ⟨g, cap, cur, rfl, _⟩
  · have := h.1; rw [h0] at this; simp at this; omega
  · exact ⟨g, cap, rfl⟩

theorem own_ne {w : World} {base k g n c b : Nat} {e t : TypeId} {xs : List Value} {cs : Array Value} {fr : Nat × Nat} (h : w.ownsRow base e k (.slice (some ⟨g, 0, none⟩) n c) n xs) (hb : w.heap[b]? = some (.cells cs t fr)) (hne : e ≠ t) : g ≠ b := by
  intro hgb
  subst hgb
  rcases h.2 with ⟨h', _⟩ | ⟨g', cap', cur, h', _, hg, _⟩
  · simp at h'
  · simp only [Value.slice.injEq, Option.some.injEq, Addr.mk.injEq, and_true, true_and] at h'
    obtain ⟨rfl, rfl⟩ := h'
    rw [hb] at hg
    simp only [Option.some.injEq, Obj.cells.injEq] at hg
    exact hne hg.2.1.symm
theorem byte_shift (f t : Nat) : (f : Int) / 2 ^ (8 * t) % 256 = ((UInt8.ofNat (f / 2 ^ (8 * t))).toNat : Int) := by
  rw [UInt8.toNat_ofNat']; push_cast; rfl
theorem le8_take (f : Nat) {t : Nat} (h : t < 8) : (le8 f).take (t + 1) = (le8 f).take t ++ [UInt8.ofNat (f / 2 ^ (8 * t))] := by
  have hl : t < (le8 f).length := by rw [le8_len]; exact h
  rw [List.take_succ_eq_append_getElem hl]
  simp [le8]
theorem one_in (w : World) (o : Obj) (x : Value) (t : TypeId) : Sl ((w.alloc o).alloc (.cells #[x] t)) (some ⟨w.heap.size + 1, 0, none⟩) 1 1 [x] := by
  have := Sl.one (w.alloc o) x t
  simpa using this

set_option maxHeartbeats 4000000 in
theorem cplain_any (k : Int) (a : Option Addr) (n c : Nat) (F : List Va) (w : World) (hs : SlK w 4 a n c (F.map Va.cells)) (hF : Fu k F) :
    Calls Tryz.prog 47 #[.slice a n c] w fun e w' => ∃ g c', e = .returned (.slice (some ⟨g, 0, none⟩) (plainC F).length c') ∧ w'.ownsRow w.heap.size 5 1 (.slice (some ⟨g, 0, none⟩) (plainC F).length c') (plainC F).length ((plainC F).map byteV) ∧ Keeps No w w' := by
  have hlen : F.length = n := by simpa using hs.len
  have hn : n ≤ 256 := by rw [← hlen]; exact hF.len
  have Hlen := Lib.hid hlen
  have hk1 := hF.k1
  have hall := hF.all
  have HF := Lib.hid hF
  have Hall := Lib.hid hall
  clear hlen hF hall
  go_enter Tryz.func47, Tryz.ntmps47
  go_wp2_with fail
  go_loopg [10, 3] n (fun q i bv wr => ∃ (m g c' : Nat) (b : List UInt8), m ≤ n ∧ q = n - m ∧ i = .int .i64 (m : Int) ∧ Hid (b = plainC (F.take m)) ∧ b.length ≤ m * 74 ∧ bv = .slice (some ⟨g, 0, none⟩) b.length c' ∧ wr.ownsRow w.heap.size 5 1 (.slice (some ⟨g, 0, none⟩) b.length c') b.length (b.map byteV) ∧ Keeps No w wr)
  case atStart => exact ⟨0, _, _, [], Nat.zero_le _, rfl, rfl, Lib.hid rfl, by simp, rfl, owns_lit0 w _ _ (Nat.le_refl _), (Keeps.refl No w).alloc _⟩
  case round =>
    obtain ⟨m, g, c', b, hm, hq, rfl, Hb, hbl, rfl, hown, hkr⟩ := hrel
    have Hq := Lib.hid hq
    clear hq
    have hzr := hkr.size
    by_cases hlt : m < n
    · have hlt' : m < F.length := by rw [Hlen.out]; exact hlt
      have hsr := hs.kept hkr
      have hix := hsr.ix (P := Tryz.prog) Tryz.underlying25 val_size hlt .i64
      obtain ⟨hld, _⟩ := hsr.load (P := Tryz.prog) (ty := 32) Tryz.underlying32 rfl val_size hlt
      rw [vget F hlt'] at hld
      obtain ⟨x, hx⟩ : ∃ x, x = F.getD m Va.zero := ⟨_, rfl⟩
      rw [← hx] at hld
      have hxm : x ∈ F := by rw [hx]; simp [hlt']
      obtain ⟨hxr, hxk, hxw⟩ := Hall.out x hxm
      have hpl := plainV_len hxr hxw
      have htk : plainC (F.take (m + 1)) = plainC (F.take m) ++ plainV x := by rw [List.take_succ_eq_append_getElem hlt', plainC_snoc, hx]; simp [hlt']
      have Htk := Lib.hid htk
      clear hx hxm hsr htk
      have hown' := hown
      obtain ⟨ab, cb, hre, hsb, _⟩ := Sl.ofOwn hown'
      obtain ⟨rfl, rfl⟩ : some ⟨g, 0, none⟩ = ab ∧ c' = cb := by
        simp only [Value.slice.injEq, true_and] at hre
        exact hre
      clear hown' hre
      obtain ⟨xk, xn, xs, xf⟩ := x
      simp only at hxk
      subst hxk
      unfold Va.cells at hld
      simp only at hld
      have hkN : Keeps No wr (wr.alloc (.cells #[.int .i64 xk, .int .i64 xn, .string xs, .int .u64 (xf : Int)] 32)) := (Keeps.refl No wr).alloc _
      have hbN := heap_alloc_new wr (.cells #[.int .i64 xk, .int .i64 xn, .string xs, .int .u64 (xf : Int)] 32)
      have hsbN := hsb.kept hkN
      have hownN := hkN.own hown (fun _ _ => not_No _)
      have hnw := hxw.2.1
      have hfw := hxw.2.2
      simp only at hnw hfw
      have Hxr := Lib.hid hxr
      have hm74 : m * 74 ≤ 256 * 74 := Nat.mul_le_mul_right _ (by omega)
      rcases (show xk = 1 ∨ xk = 2 ∨ xk = 3 ∨ xk = 4 by omega) with rfl | rfl | rfl | rfl
      · have hv : plainV ⟨1, xn, xs, xf⟩ = nat7 (fold xn) := rfl
        rw [hv] at Htk hpl
        clear hv hxr
        go_wp2_with (refine wpList_loadV (op := ⟨some 13, _, _, _, _, _⟩) rfl 32 (.tmp 12) rfl _ rfl _ hld ?_)
        refine (number_any _ _ _ b xn _ hsbN (by omega) hnw).mono ?_
        rintro e w2 ⟨v2, rfl, hown2, hk2⟩
        have hz2 := hkN.size
        go_wp2_with fail
        obtain ⟨g2, c2, rfl⟩ := own_some hown2 (by have := (nat7_len 9 (fold xn) (by have := fold_lt (wf_i64_iff hnw); omega)).2; omega)
        go_roundg (n - (m + 1))
        case measure => have := Hq.out; omega
        case rel =>
          have e1 : b.length + (nat7 (fold xn)).length = (b ++ nat7 (fold xn)).length := by simp
          rw [e1] at hown2
          refine ⟨m + 1, g2, c2, b ++ nat7 (fold xn), by omega, rfl, by go_num, Lib.hid (by rw [Htk.out, Hb.out]), by simp; omega, by rw [e1], own_le hown2 (by omega), (hkr.transNo hkN).transNo hk2⟩
      · have hn2 : xn = ((UInt8.ofNat xn.toNat).toNat : Int) := by
          rcases (right_two Hxr.out rfl).2 with h | h <;> (simp only at h; subst h; rfl)
        have hv : plainV ⟨2, xn, xs, xf⟩ = [UInt8.ofNat xn.toNat] := rfl
        have h01 : 0 ≤ xn ∧ xn ≤ 1 := by rcases (right_two Hxr.out rfl).2 with h | h <;> (simp only at h; subst h; decide)
        have hmod : xn % 256 = xn := by omega
        rw [hv] at Htk hpl
        have Hn2 := Lib.hid hn2
        clear hv hn2 hxr h01
        have hkB : Keeps No wr ((wr.alloc (.cells #[.int .i64 2, .int .i64 xn, .string xs, .int .u64 (xf : Int)] 32)).alloc (.cells #[.int .u8 xn] 5)) := hkN.alloc _
        have hownB := hkB.own hown (fun _ _ => not_No _)
        go_wp2_with (first | (refine wpList_loadV (op := ⟨some 13, _, _, _, _, _⟩) rfl 32 (.tmp 12) rfl _ rfl _ hld ?_) | (at_builtin; go_loud (refine app_ownS rfl _ _ 22 rfl w.heap.size 5 (.int .u8 0) 1 Tryz.underlying22 byte_infoX rfl (by decide) _ b.length (b.map byteV) rfl hownB ?hv _ 1 1 [.int .u8 xn] rfl (one_in _ _ _ _) ?h1 ?hb ?hB ?_)))
        case hv => intro h; have h2 : Value.slice (some ⟨g, 0, none⟩) b.length c' = .slice none 0 0 := h; simp at h2
        case h1 => intro u hu; simp at hu; subst hu; rfl
        case hb => omega
        case hB => simp; omega
        intro g2 c2 w2 hown2 hg2 _ _
        go_wp2_with fail
        go_roundg (n - (m + 1))
        case measure => have := Hq.out; omega
        case rel =>
          have e1 : b.map byteV ++ [.int .u8 xn] = (b ++ [UInt8.ofNat xn.toNat]).map byteV := by rw [List.map_append]; simp only [List.map_cons, List.map_nil, byteV]; rw [← Hn2.out]
          have e2 : b.length + 1 = (b ++ [UInt8.ofNat xn.toNat]).length := by simp
          rw [e1, e2] at hown2
          exact ⟨m + 1, g2, c2, b ++ [UInt8.ofNat xn.toNat], by omega, rfl, by go_num, Lib.hid (by rw [Htk.out, Hb.out]), by simp; omega, by rw [e2], hown2, (hkr.transNo hkB).grown hg2 (fun i hi hlt2 => by have := (hown.lt i hi).1; exact absurd hlt2 (by omega))⟩
      · have hv : plainV ⟨3, xn, xs, xf⟩ = nat7 xs.size ++ xs.data.toList := rfl
        have hsz := right_size hxr
        simp only at hsz
        rw [hv] at Htk hpl
        clear hv hxr
        go_wp2_with (refine wpList_loadV (op := ⟨some 13, _, _, _, _, _⟩) rfl 32 (.tmp 12) rfl _ rfl _ hld ?_)
        refine (text_any _ _ _ b xs _ hsbN (by omega)).mono ?_
        rintro e w2 ⟨v2, rfl, hown2, hk2⟩
        have hz2 := hkN.size
        go_wp2_with fail
        obtain ⟨g2, c2, rfl⟩ := own_some hown2 (by have := (nat7_len 9 xs.size (by omega)).2; omega)
        go_roundg (n - (m + 1))
        case measure => have := Hq.out; omega
        case rel =>
          have e1 : b.length + (nat7 xs.size).length + xs.size = (b ++ (nat7 xs.size ++ xs.data.toList)).length := by simp [blen]; omega
          rw [e1, List.append_assoc] at hown2
          rw [List.length_append, blen] at hpl
          refine ⟨m + 1, g2, c2, b ++ (nat7 xs.size ++ xs.data.toList), by omega, rfl, by go_num, Lib.hid (by rw [Htk.out, Hb.out]), by simp [blen]; omega, by rw [e1], own_le hown2 (by omega), (hkr.transNo hkN).transNo hk2⟩
      · have hv : plainV ⟨4, xn, xs, xf⟩ = le8 xf := rfl
        rw [hv] at Htk hpl
        clear hv hxr
        go_wp2_with (refine wpList_loadV (op := ⟨some 13, _, _, _, _, _⟩) rfl 32 (.tmp 12) rfl _ rfl _ hld ?_)
        clear hld hix hsb hsbN
        generalize wr = wa at hown hkr hzr hbN hkN hownN ⊢
        go_loopg [16, 3] 8 (fun q2 i2 bv wr => ∃ (t g c' : Nat) (d : List UInt8), t ≤ 8 ∧ q2 = 8 - t ∧ i2 = .int .i64 (t : Int) ∧ Hid (d = b ++ (le8 xf).take t) ∧ d.length = b.length + t ∧ bv = .slice (some ⟨g, 0, none⟩) d.length c' ∧ wr.ownsRow w.heap.size 5 1 (.slice (some ⟨g, 0, none⟩) d.length c') d.length (d.map byteV) ∧ Keeps No w wr ∧ wa.heap.size < wr.heap.size ∧ wr.heap[wa.heap.size]? = some (.cells #[.int .i64 4, .int .i64 xn, .string xs, .int .u64 (xf : Int)] 32 (0, 0)))
        case atStart => exact ⟨0, g, c', b, by omega, rfl, rfl, Lib.hid (by simp), rfl, rfl, hownN, hkr.transNo hkN, by simp, hbN⟩
        case round =>
          obtain ⟨t, g3, c3, d, ht, hq2, rfl, Hd, hdl, rfl, hown3, hkx, hzx, hbx⟩ := hrel
          have Hq2 := Lib.hid hq2
          clear hq2
          obtain ⟨x0, x1, x2, x3⟩ := row4 hbx
          by_cases ht8 : t < 8
          · have hkB : Keeps No wr (wr.alloc (.cells #[.int .u8 ((xf : Int) / 2 ^ (8 * t) % 256)] 5)) := (Keeps.refl No wr).alloc _
            have hownB := hkB.own hown3 (fun _ _ => not_No _)
            have hgne := own_ne hown3 hbx (by decide)
            have hbB := hkB.blk hbx (not_No _)
            have Hgne := Lib.hid hgne
            have hlt3 := hown3.lt g3 rfl
            clear hgne
            go_wp2_with (at_builtin; go_loud (refine app_ownS rfl _ _ 22 rfl w.heap.size 5 (.int .u8 0) 1 Tryz.underlying22 byte_infoX rfl (by decide) _ d.length (d.map byteV) rfl hownB ?hv _ 1 1 [.int .u8 ((xf : Int) / 2 ^ (8 * t) % 256)] rfl (Sl.one _ _ _) ?h1 ?hb ?hB ?_))
            case hv => intro h; have h2 : Value.slice (some ⟨g3, 0, none⟩) d.length c3 = .slice none 0 0 := h; simp at h2
            case h1 => intro u hu; simp at hu; subst hu; rfl
            case hb => omega
            case hB => simp; omega
            intro g4 c4 w4 hown4 hg4 _ _
            have hb4 : w4.heap[wa.heap.size]? = some (.cells #[.int .i64 4, .int .i64 xn, .string xs, .int .u64 (xf : Int)] 32 (0, 0)) := (hg4.block wa.heap.size (by simp; omega) (fun e => Hgne.out (by have e2 : some wa.heap.size = some g3 := e; injection e2 with e2; exact e2.symm))).trans hbB
            have hz4 := hg4.size
            have hz5 := hkB.size
            go_wp2_with fail
            go_roundg (8 - (t + 1))
            case measure => have := Hq2.out; omega
            case rel =>
              have e1 : d.map byteV ++ [.int .u8 ((xf : Int) / 2 ^ (8 * t) % 256)] = (d ++ [UInt8.ofNat (xf / 2 ^ (8 * t))]).map byteV := by rw [List.map_append]; simp only [List.map_cons, List.map_nil, byteV]; rw [byte_shift]
              have e2 : b.length + t + 1 = (d ++ [UInt8.ofNat (xf / 2 ^ (8 * t))]).length := by simp; omega
              rw [e1, e2] at hown4
              refine ⟨t + 1, g4, c4, d ++ [UInt8.ofNat (xf / 2 ^ (8 * t))], by omega, rfl, by go_num, Lib.hid (by rw [Hd.out, le8_take xf ht8, List.append_assoc]), by simp; omega, by rw [e2], hown4, (hkx.transNo hkB).grown hg4 (fun i hi hlt2 => by have := (hown3.lt i hi).1; exact absurd hlt2 (by omega)), by omega, hb4⟩
          · obtain rfl : t = 8 := by omega
            have hl8 := le8_len xf
            go_wp2_with fail
            go_roundg (n - (m + 1))
            case measure => have := Hq.out; omega
            case rel =>
              refine ⟨m + 1, g3, c3, d, by omega, rfl, by go_num, Lib.hid ?_, by omega, rfl, hown3, hkx⟩
              rw [Htk.out, Hd.out, Hb.out, List.take_of_length_le (l := le8 xf) (by rw [le8_len]; exact Nat.le_refl _)]
    · obtain rfl : m = n := by omega
      go_wp2_with fail
      go_ret
      have hbF : b = plainC F := by rw [Hb.out, List.take_of_length_le (by rw [Hlen.out]; exact Nat.le_refl _)]
      rw [← hbF]
      exact ⟨g, c', rfl, hown, hkr⟩

theorem wrap64_f {f : Nat} (h : f < 18446744073709551616) : wrap64 (f : Int) = i64of f := by unfold wrap64 i64of; split <;> omega
set_option maxHeartbeats 2000000 in
theorem cnumbers_any (k : Int) (a : Option Addr) (n c : Nat) (F : List Va) (w : World) (hs : SlK w 4 a n c (F.map Va.cells)) (hF : Fu k F) :
    Calls Tryz.prog 49 #[.slice a n c] w fun e w' => ∃ a' c', e = .returned (.slice a' n c') ∧ Sl w' a' n c' ((numsC F).map intV) ∧ Keeps No w w' := by
  have hlen : F.length = n := by simpa using hs.len
  have hn : n ≤ 256 := by rw [← hlen]; exact hF.len
  have Hlen := Lib.hid hlen
  have Hall := Lib.hid hF.all
  clear hlen hF
  go_enter Tryz.func49, Tryz.ntmps49
  go_wp2_with fail
  go_loopg [8, 3] n (fun q i bv wr => ∃ (m : Nat), m ≤ n ∧ q = n - m ∧ i = .int .i64 (m : Int) ∧ wr.ownsRow w.heap.size 3 1 bv m ((numsC (F.take m)).map intV) ∧ Keeps No w wr)
  case atStart => exact ⟨0, Nat.zero_le _, rfl, rfl, World.ownsRow_nil _ _ _ _, Keeps.refl _ _⟩
  case round =>
    obtain ⟨m, hm, hq, rfl, hown, hkr⟩ := hrel
    have Hq := Lib.hid hq
    clear hq
    have hzr := hkr.size
    by_cases hlt : m < n
    · have hlt' : m < F.length := by rw [Hlen.out]; exact hlt
      have hsr := hs.kept hkr
      have hix := hsr.ix (P := Tryz.prog) Tryz.underlying25 val_size hlt .i64
      obtain ⟨hld, _⟩ := hsr.load (P := Tryz.prog) (ty := 32) Tryz.underlying32 rfl val_size hlt
      rw [vget F hlt'] at hld
      obtain ⟨x, hx⟩ : ∃ x, x = F.getD m Va.zero := ⟨_, rfl⟩
      rw [← hx] at hld
      have hxm : x ∈ F := by rw [hx]; simp [hlt']
      obtain ⟨hxr, hxk, hxw⟩ := Hall.out x hxm
      have htk : numsC (F.take (m + 1)) = numsC (F.take m) ++ [numV x] := by
        have hg : F.getD m Va.zero = F[m] := by simp [hlt']
        rw [hx, hg]; unfold numsC; rw [List.take_succ_eq_append_getElem hlt', List.map_append]; rfl
      have Htk := Lib.hid htk
      clear hx hxm hsr htk hxr hxk
      obtain ⟨xk, xn, xs, xf⟩ := x
      unfold Va.cells at hld
      simp only at hld
      have hkN : ∀ (y : Int), Keeps No wr (wr.alloc (.cells #[.int .i64 xk, .int .i64 y, .string xs, .int .u64 (xf : Int)] 32)) := fun y => (Keeps.refl No wr).alloc _
      have hkB : ∀ (y : Int), Keeps No wr ((wr.alloc (.cells #[.int .i64 xk, .int .i64 y, .string xs, .int .u64 (xf : Int)] 32)).alloc (.cells #[.int .i64 y] 3)) := fun y => (hkN y).alloc _
      by_cases h4 : xk = 4
      · subst h4
        have hnv : numV ⟨4, xn, xs, xf⟩ = i64of xf := rfl
        rw [hnv] at Htk
        clear hnv
        have hfw : xf < 18446744073709551616 := hxw.2.2
        have hownB := (hkB (wrap64 (xf : Int))).own hown (fun _ _ => not_No _)
        go_wp2_with (first | (refine wpList_loadV (op := ⟨some 11, _, _, _, _, _⟩) rfl 32 (.tmp 10) rfl _ rfl _ hld ?_) | (at_builtin; go_loud (refine app_own rfl _ _ 63 rfl w.heap.size 3 (.int .i64 0) 8 Tryz.underlying63 int_infoX rfl (by decide) _ m ((numsC (F.take m)).map intV) rfl hownB _ 1 1 [.int .i64 (wrap64 (xf : Int))] rfl (one_in _ _ _ _) ?h1 ?hb ?hB ?_)))
        case h1 => intro u hu; simp at hu; subst hu; rfl
        case hb => omega
        case hB => simp; omega
        intro v7 w7 hown7 hg7
        go_wp2_with fail
        go_roundg (n - (m + 1))
        case measure => have := Hq.out; omega
        case rel => exact ⟨m + 1, by omega, rfl, by go_num, by rw [Htk.out, List.map_append, ← wrap64_f hfw]; exact hown7, (hkr.transNo (hkB _)).grown hg7 (fun i hi hlt2 => by have := (hown.lt i hi).1; exact absurd hlt2 (by omega))⟩
      · have hnv : numV ⟨xk, xn, xs, xf⟩ = xn := by unfold numV; simp [h4]
        rw [hnv] at Htk
        have e4 : (xk == 4) = false := by simp [h4]
        clear hnv h4
        have hownB := (hkB xn).own hown (fun _ _ => not_No _)
        go_wp2_with (first | (refine wpList_loadV (op := ⟨some 11, _, _, _, _, _⟩) rfl 32 (.tmp 10) rfl _ rfl _ hld ?_) | (at_builtin; go_loud (refine app_own rfl _ _ 63 rfl w.heap.size 3 (.int .i64 0) 8 Tryz.underlying63 int_infoX rfl (by decide) _ m ((numsC (F.take m)).map intV) rfl hownB _ 1 1 [.int .i64 xn] rfl (one_in _ _ _ _) ?h1 ?hb ?hB ?_)))
        case h1 => intro u hu; simp at hu; subst hu; rfl
        case hb => omega
        case hB => simp; omega
        intro v7 w7 hown7 hg7
        go_wp2_with fail
        go_roundg (n - (m + 1))
        case measure => have := Hq.out; omega
        case rel => exact ⟨m + 1, by omega, rfl, by go_num, by rw [Htk.out, List.map_append]; exact hown7, (hkr.transNo (hkB xn)).grown hg7 (fun i hi hlt2 => by have := (hown.lt i hi).1; exact absurd hlt2 (by omega))⟩
    · obtain rfl : m = n := by omega
      obtain ⟨a', c', rfl, hs', _⟩ := Sl.ofOwn hown
      go_wp2_with fail
      go_ret
      rw [List.take_of_length_le (by rw [Hlen.out]; exact Nat.le_refl _)] at hs'
      exact ⟨a', c', rfl, hs', hkr⟩

set_option maxHeartbeats 2000000 in
theorem ctexts_any (a : Option Addr) (n c : Nat) (F : List Va) (w : World) (hs : SlK w 4 a n c (F.map Va.cells)) (hn : n ≤ 1000) :
    Calls Tryz.prog 51 #[.slice a n c] w fun e w' => ∃ a' c', e = .returned (.slice a' n c') ∧ Sl w' a' n c' ((txtsC F).map txV) ∧ Keeps No w w' := by
  have hlen : F.length = n := by simpa using hs.len
  have Hlen := Lib.hid hlen
  clear hlen
  go_enter Tryz.func51, Tryz.ntmps51
  go_wp2_with fail
  go_loopg [8, 3] n (fun q i bv wr => ∃ (m : Nat), m ≤ n ∧ q = n - m ∧ i = .int .i64 (m : Int) ∧ wr.ownsRow w.heap.size 9 1 bv m ((txtsC (F.take m)).map txV) ∧ Keeps No w wr)
  case atStart => exact ⟨0, Nat.zero_le _, rfl, rfl, World.ownsRow_nil _ _ _ _, Keeps.refl _ _⟩
  case round =>
    obtain ⟨m, hm, hq, rfl, hown, hkr⟩ := hrel
    have Hq := Lib.hid hq
    clear hq
    have hzr := hkr.size
    by_cases hlt : m < n
    · have hlt' : m < F.length := by rw [Hlen.out]; exact hlt
      have hsr := hs.kept hkr
      have hix := hsr.ix (P := Tryz.prog) Tryz.underlying25 val_size hlt .i64
      obtain ⟨hld, _⟩ := hsr.load (P := Tryz.prog) (ty := 32) Tryz.underlying32 rfl val_size hlt
      rw [vget F hlt'] at hld
      obtain ⟨x, hx⟩ : ∃ x, x = F.getD m Va.zero := ⟨_, rfl⟩
      rw [← hx] at hld
      have htk : txtsC (F.take (m + 1)) = txtsC (F.take m) ++ [x.s.data.toList] := by
        have hg : F.getD m Va.zero = F[m] := by simp [hlt']
        rw [hx, hg]; unfold txtsC; rw [List.take_succ_eq_append_getElem hlt', List.map_append]; rfl
      have Htk := Lib.hid htk
      clear hx hsr htk
      obtain ⟨xk, xn, xs, xf⟩ := x
      unfold Va.cells at hld
      simp only at hld
      have hkB : Keeps No wr ((wr.alloc (.cells #[.int .i64 xk, .int .i64 xn, .string xs, .int .u64 (xf : Int)] 32)).alloc (.cells #[.string xs] 9)) := ((Keeps.refl No wr).alloc _).alloc _
      have hownB := hkB.own hown (fun _ _ => not_No _)
      go_wp2_with (first | (refine wpList_loadV (op := ⟨some 11, _, _, _, _, _⟩) rfl 32 (.tmp 10) rfl _ rfl _ hld ?_) | (at_builtin; go_loud (refine app_own rfl _ _ 64 rfl w.heap.size 9 (.string ByteArray.empty) 16 Tryz.underlying64 str_infoQ rfl (by decide) _ m ((txtsC (F.take m)).map txV) rfl hownB _ 1 1 [.string xs] rfl (one_in _ _ _ _) ?h1 ?hb ?hB ?_)))
      case h1 => first | rfl | (intro u hu; simp at hu; subst hu; rfl)
      case hb => omega
      case hB => first | omega | (simp; omega)
      intro v7 w7 hown7 hg7
      go_wp2_with fail
      go_roundg (n - (m + 1))
      case measure => have := Hq.out; omega
      case rel => exact ⟨m + 1, by omega, rfl, by go_num, by rw [Htk.out, List.map_append]; exact hown7, (hkr.transNo hkB).grown hg7 (fun i hi hlt2 => by have := (hown.lt i hi).1; exact absurd hlt2 (by omega))⟩
    · obtain rfl : m = n := by omega
      obtain ⟨a', c', rfl, hs', _⟩ := Sl.ofOwn hown
      go_wp2_with fail
      go_ret
      rw [List.take_of_length_le (by rw [Hlen.out]; exact Nat.le_refl _)] at hs'
      exact ⟨a', c', rfl, hs', hkr⟩
end Go.Proofs.YthbipcjgpocpaaaGreat
