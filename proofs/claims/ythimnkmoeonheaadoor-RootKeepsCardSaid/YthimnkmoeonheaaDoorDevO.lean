/- Overwrite of package device: slices.DeleteFunc. -/
import Derived.Test.YthimnkmoeonheaaDoorDevC
namespace Go.Proofs.YthimnkmoeonheaaDoor
open Go.RowKit
set_option linter.unusedSimpArgs false
set_option linter.unusedVariables false
set_option maxRecDepth 100000

theorem dclo_any (x : WR) (bi : Nat) (i : Nat) (w : World) (hx : x.2.length = 16) (hc : w.cell? ⟨bi, 0, none⟩ = some (.int .i64 (i : Int))) :
    Calls Tryd.prog 53 #[.agg (wrC x).toArray, .pointer (some ⟨bi, 0, none⟩)] w fun e w' => e = .returned (.bool (decide (x.1 = i))) ∧ Keeps No w w' := by
  have hkA : Keeps No w (w.alloc (.cells (wrC x).toArray 109)) := (Keeps.refl No w).alloc _
  have hb := heap_alloc_new w (.cells (wrC x).toArray 109)
  have hc2 := hkA.cell hc (not_No _)
  have hx0 := (wr_cells hb hx).1
  have hd : decide (x.1 = i) = ((x.1 : Int) == (i : Int)) := by
    by_cases h : x.1 = i
    · subst h; simp
    · have : ((x.1 : Int) == (i : Int)) = false := by rw [beq_eq_false_iff_ne]; omega
      rw [this]; simp [h]
  have Hd := Lib.hid hd
  have Hx := Lib.hid hx
  clear hd hx hb
  go_enter Tryd.func53, Tryd.ntmps53
  go_wp2_with fail
  go_ret
  exact ⟨by rw [Hd.out]; simp, hkA⟩

/-- The writes that stay. -/
abbrev offW (i : Nat) : WR → Bool := fun w => !decide (w.1 = i)
theorem filter_hit (L : List WR) (i m : Nat) (hm : m < L.length) (h : (L[m]).1 = i) : (L.take (m + 1)).filter (offW i) = (L.take m).filter (offW i) := by
  rw [List.take_succ_eq_append_getElem hm, List.filter_append]; simp [h]
theorem filter_miss (L : List WR) (i m : Nat) (hm : m < L.length) (h : (L[m]).1 ≠ i) : (L.take (m + 1)).filter (offW i) = (L.take m).filter (offW i) ++ [L[m]] := by
  rw [List.take_succ_eq_append_getElem hm, List.filter_append]; simp [h]

def IdxPost (L : List WR) (i : Nat) (w : World) (e : Ending) (w' : World) : Prop :=
  ∃ r : Int, e = .returned (.int .i64 r) ∧ Keeps No w w' ∧ ((r = -1 ∧ L.filter (offW i) = L) ∨ ∃ m : Nat, r = (m : Int) ∧ m < L.length ∧ (L.take (m + 1)).filter (offW i) = L.take m)

theorem dindex_any (a : Option Addr) (n c : Nat) (L : List WR) (bi i : Nat) (w : World) (hs : SlK w 17 a n c (L.map wrC)) (hL : ∀ x ∈ L, x.2.length = 16) (hc : w.cell? ⟨bi, 0, none⟩ = some (.int .i64 (i : Int))) :
    Calls Tryd.prog 69 #[.slice a n c, .func (.func 53) #[] #[.pointer (some ⟨bi, 0, none⟩)]] w (IdxPost L i w) := by
  have hlen : L.length = n := by simpa using hs.len
  have hwm := hs.max
  have hwl := hs.le
  unfold maxLen at hwm
  have Hlen := Lib.hid hlen
  clear hlen
  go_enter Tryd.func69, Tryd.ntmps69
  go_wp2_with fail
  go_loopg [8] n (fun q i' wr => ∃ m : Nat, m ≤ n ∧ q = n - m ∧ i' = .int .i64 (m : Int) ∧ (L.take m).filter (offW i) = L.take m ∧ Keeps No w wr)
  case atStart => exact ⟨0, Nat.zero_le _, rfl, rfl, rfl, Keeps.refl _ _⟩
  case round =>
    obtain ⟨m, hm, hq, rfl, hmf, hkr⟩ := hrel
    have Hq := Lib.hid hq
    have Hmf := Lib.hid hmf
    clear hq hmf
    by_cases hlt : m < n
    · have hlt' : m < L.length := by rw [Hlen.out]; exact hlt
      have hsr := hs.kept hkr
      have hix := hsr.ix (P := Tryd.prog) Tryd.underlying98 write_size hlt .i64
      obtain ⟨hld, _⟩ := hsr.load (P := Tryd.prog) (ty := 109) Tryd.underlying109 rfl write_size hlt
      obtain ⟨x, hx⟩ : ∃ x, x = L[m] := ⟨_, rfl⟩
      have hxc : (L.map wrC).getD m [] = wrC x := by rw [hx]; simp [hlt']
      have hx16 := hL x (by rw [hx]; exact List.getElem_mem hlt')
      rw [hxc] at hld
      have HX := Lib.hid hx
      have hcl := dclo_any x bi i wr hx16 (hkr.cell hc (not_No _))
      have HX16 := Lib.hid hx16
      clear hxc hx hx16 hsr
      by_cases hxi : x.1 = i
      · rw [decide_eq_true hxi] at hcl
        have HXI := Lib.hid hxi
        clear hxi
        go_wp2_with (refine wpList_loadV (op := ⟨some 15, _, _, _, _, _⟩) rfl 109 (.tmp 14) rfl _ rfl _ hld ?_)
        refine hcl.mono ?_
        rintro e w2 ⟨rfl, hk2⟩
        go_wp2_with fail
        go_ret
        exact ⟨m, rfl, hkr.transNo hk2, .inr ⟨m, rfl, hlt', by rw [filter_hit L i m hlt' (by rw [← HX.out]; exact HXI.out), Hmf.out]⟩⟩
      · rw [decide_eq_false hxi] at hcl
        have HXI := Lib.hid hxi
        clear hxi
        go_wp2_with (refine wpList_loadV (op := ⟨some 15, _, _, _, _, _⟩) rfl 109 (.tmp 14) rfl _ rfl _ hld ?_)
        refine hcl.mono ?_
        rintro e w2 ⟨rfl, hk2⟩
        go_wp2_with fail
        go_roundg (n - (m + 1))
        case measure => have := Hq.out; omega
        case rel => exact ⟨m + 1, by omega, rfl, by go_num, by rw [filter_miss L i m hlt' (by rw [← HX.out]; exact HXI.out), Hmf.out, ← List.take_succ_eq_append_getElem hlt'], hkr.transNo hk2⟩
    · obtain rfl : n = m := by omega
      go_wp2_with fail
      go_ret
      exact ⟨-1, rfl, hkr, .inl ⟨rfl, by have := Hmf.out; rw [← Hlen.out, List.take_length] at this; exact this⟩⟩

theorem ownsRow_take {w : World} {base : Nat} {e : TypeId} {k g n cap : Nat} {xs : List Value} (h : w.ownsRow base e k (.slice (some ⟨g, 0, none⟩) n cap) n xs) (i : Nat) (hi : i ≤ n) : w.ownsRow base e k (.slice (some ⟨g, 0, none⟩) i cap) i (xs.take (i * k)) := by
  rcases h.2 with ⟨h', _⟩ | ⟨g', cap', cur, h', hb, hg, hnc, hcm, hcs, htake⟩
  · simp at h'
  simp only [Value.slice.injEq, Option.some.injEq, Addr.mk.injEq, and_true, true_and] at h'
  obtain ⟨rfl, rfl⟩ := h'
  have hik : i * k ≤ n * k := Nat.mul_le_mul_right k hi
  refine ⟨by rw [List.length_take, h.1]; omega, .inr ⟨g, cap, cur, rfl, hb, hg, by omega, hcm, hcs, ?_⟩⟩
  rw [← htake, List.take_take, Nat.min_eq_left hik]

theorem zeroCells_len (z : Array Value) (n : Nat) : (Builtin.zeroCells z n).size = n * z.size := by simp [Builtin.zeroCells]
theorem zeroCells_one (z : Array Value) (n : Nat) (hz : 0 < z.size) (h1 : ∀ v ∈ z, v.oneCell' = true) : ∀ v ∈ (Builtin.zeroCells z n).toList, v.oneCell' = true := by
  intro v hv
  simp only [Builtin.zeroCells, Array.toList_map, List.mem_map] at hv
  obtain ⟨i, _, rfl⟩ := hv
  have hm : i % z.size < z.size := Nat.mod_lt _ hz
  rw [getElem!_pos z (i % z.size) hm]
  exact h1 _ (Array.getElem_mem hm)
/-- 'clear(s[i:])', s the call's own: what stands ahead of i stays. -/
theorem run_clear_own {P : Program} (w : World) (T e ty : TypeId) (base k g n cap i cs bytes : Nat) (z : Value) (xs : List Value) (ht : P.underlying T = some (.slice e)) (hinf : (P.info? e).map (fun i => (i.zero, i.size, i.bytes)) = some (some z, k, bytes)) (hzs : z.cells.size = k) (hk : 0 < k)
    (h1 : ∀ v ∈ z.cells, v.oneCell' = true) (hown : w.ownsRow base e k (.slice (some ⟨g, 0, none⟩) n cap) n xs) (hi : i ≤ n) :
    ∃ w', (Builtin.clear_ #[T] ty #[.slice (some ⟨g, i * k, none⟩) (n - i) cs]).run P w = .ok (.tuple #[]) w' ∧ w'.ownsRow base e k (.slice (some ⟨g, 0, none⟩) i cap) i (xs.take (i * k)) ∧ w'.heap.size = w.heap.size ∧ Keeps (fun j => j = g) w w' := by
  rcases Nat.eq_or_lt_of_le hi with rfl | hlt
  · refine ⟨w, ?_, ownsRow_take hown i (Nat.le_refl _), rfl, Keeps.refl _ _⟩
    rw [Nat.sub_self]
    simp [Builtin.clear_, run_underlying ht]
  rcases hown.2 with ⟨h', _⟩ | ⟨g', cap', cur, h', hb, hg, hnc, hcm, hcs, htake⟩
  · simp at h'
  simp only [Value.slice.injEq, Option.some.injEq, Addr.mk.injEq, and_true, true_and] at h'
  obtain ⟨rfl, rfl⟩ := h'
  obtain ⟨i0, hi0, hz0, hz1, hz2⟩ := info_parts hinf
  have hik : i * k ≤ n * k := Nat.mul_le_mul_right k hi
  have hnk : n * k ≤ cap * k := Nat.mul_le_mul_right k hnc
  have hlen : (Builtin.zeroCells z.cells (n - i)).toList.length = n * k - i * k := by rw [Array.length_toList, zeroCells_len, hzs, Nat.sub_mul]
  have hst := run_storeCells_at (P := P) g (i * k) e (Builtin.zeroCells z.cells (n - i)).toList 0 cur w hg (by rw [hlen, hcs]; omega) (zeroCells_one z.cells (n - i) (by omega) h1)
  simp only [Nat.add_zero] at hst
  have hz : ∀ w, (zeroValue e).run P w = .ok z w := fun w => by simp [zeroValue, typeInfo, hi0, hz0]
  obtain ⟨q, hq⟩ : ∃ q, n - i = q + 1 := ⟨n - i - 1, by omega⟩
  refine ⟨w.setRow g (cur.toList.take (i * k) ++ (Builtin.zeroCells z.cells (n - i)).toList ++ cur.toList.drop (i * k + (Builtin.zeroCells z.cells (n - i)).toList.length)).toArray, ?_, ⟨by rw [List.length_take, hown.1]; omega, .inr ⟨g, cap, _, rfl, hb, setRow_heap w g cur _ e (0, 0) hg, by omega, hcm, ?_, ?_⟩⟩, by simp, Keeps.setRow w g _⟩
  · rw [hq] at hst ⊢
    simp [Builtin.clear_, run_underlying ht, hz, hst]
  · simp only [List.size_toArray, List.length_append, List.length_take, List.length_drop, hlen, Array.length_toList]
    omega
  · simp only [List.append_assoc]
    rw [List.take_append_of_le_length (by simp; omega), List.take_take, Nat.min_self, ← htake, List.take_take, Nat.min_eq_left hik]
theorem wpList_clear_own {P : Program} {ops : Array Oper} {rest : List Oper} {o : Oper} {ac : Act} {w : World} {Q : Exit → Act → World → Prop} (hgd : o.guard = none) (x : Operand) (T : TypeId)
    (ho : o.op = .call { callee := .builtin .clear, args := #[x], argTypes := #[T] }) (e : TypeId) (base k g n cap i cs bytes : Nat) (z : Value) (xs : List Value) (ht : P.underlying T = some (.slice e)) (hinf : (P.info? e).map (fun i => (i.zero, i.size, i.bytes)) = some (some z, k, bytes)) (hzs : z.cells.size = k) (hk : 0 < k)
    (h1 : ∀ v ∈ z.cells, v.oneCell' = true) (hown : w.ownsRow base e k (.slice (some ⟨g, 0, none⟩) n cap) n xs) (hi : i ≤ n) (hx : ac.eval x = .slice (some ⟨g, i * k, none⟩) (n - i) cs)
    (h : ∀ w', w'.ownsRow base e k (.slice (some ⟨g, 0, none⟩) i cap) i (xs.take (i * k)) → w'.heap.size = w.heap.size → Keeps (fun j => j = g) w w' → wpList P ops Q rest (ac.put o.dst (.tuple #[])) w') : wpList P ops Q (o :: rest) ac w := by
  refine wpList_plain hgd fun K hK => ?_
  obtain ⟨w', hrun, h2, h3, h4⟩ := run_clear_own (P := P) w T e o.type base k g n cap i cs bytes z xs ht hinf hzs hk h1 hown hi
  unfold Oper.wp execOp
  simp only [ho, resolve, invoke, builtin, Sem.run_bind, Sem.run_pure, Result.andThen_ok, List.map_toArray, List.map_cons, List.map_nil, hx, hrun]
  exact hK _ _ (h w' h2 h3 h4)

/-- 's[k:]' of elements of sz cells, k < len. -/
theorem SlK.from_ {P : Program} {w : World} {sz g n c : Nat} {xs : List (List Value)} (h : SlK w sz (some ⟨g, 0, Option.none⟩) n c xs) {T e : TypeId} (hu : P.underlying T = some (.slice e)) (hz : (P.info? e).map (·.size) = some sz) {k : Nat} (hk : k < n) (kd : IntKind) :
    (∀ wx, (Instr.sliceAt T (.slice (some ⟨g, 0, Option.none⟩) n c) (some (.int kd (k : Int))) Option.none Option.none).run P wx = .ok (.slice (some ⟨g, k * sz, Option.none⟩) (n - k) (c - k)) wx) ∧ (∀ wx, (Instr.slice T (.slice (some ⟨g, 0, Option.none⟩) n c) (some (.int kd (k : Int))) Option.none Option.none).run P wx = .ok (.slice (some ⟨g, k * sz, Option.none⟩) (n - k) (c - k)) wx) := by
  obtain ⟨f, hf, hf1⟩ := Option.map_eq_some_iff.1 hz
  have he : P.elem T = e := by simp [Program.elem, hu]
  have hle := h.le
  have hrun : ∀ wx, (Instr.slice T (.slice (some ⟨g, 0, Option.none⟩) n c) (some (.int kd (k : Int))) Option.none Option.none).run P wx = .ok (.slice (some ⟨g, k * sz, Option.none⟩) (n - k) (c - k)) wx := by
    intro wx
    rw [run_slice_l (P := P) wx T _ n c (by rw [he]; exact hu) kd (k : Int) (by omega) (by omega)]
    have h1 : ¬ c = k := by omega
    simp [sizeOf, typeInfo, he, hf, hf1, Result.andThen, sliced, h1, Addr.add]
    intro h; exact h.symm
  refine ⟨fun wx => ?_, hrun⟩
  rw [run_sliceAt_slice (P := P) wx T _ _ _ _ (by rw [he]; exact hu)]
  exact hrun wx
/-- 's[:k]' of elements of sz cells. -/
theorem SlK.upto {P : Program} {w : World} {sz g n c : Nat} {xs : List (List Value)} (h : SlK w sz (some ⟨g, 0, Option.none⟩) n c xs) {T e : TypeId} (hu : P.underlying T = some (.slice e)) (hz : (P.info? e).map (·.size) = some sz) {k : Nat} (hk : k ≤ n) (kd : IntKind) :
    (∀ wx, (Instr.sliceAt T (.slice (some ⟨g, 0, Option.none⟩) n c) Option.none (some (.int kd (k : Int))) Option.none).run P wx = .ok (.slice (some ⟨g, 0, Option.none⟩) k c) wx) ∧ (∀ wx, (Instr.slice T (.slice (some ⟨g, 0, Option.none⟩) n c) Option.none (some (.int kd (k : Int))) Option.none).run P wx = .ok (.slice (some ⟨g, 0, Option.none⟩) k c) wx) := by
  obtain ⟨f, hf, hf1⟩ := Option.map_eq_some_iff.1 hz
  have he : P.elem T = e := by simp [Program.elem, hu]
  have hle := h.le
  have hrun : ∀ wx, (Instr.slice T (.slice (some ⟨g, 0, Option.none⟩) n c) Option.none (some (.int kd (k : Int))) Option.none).run P wx = .ok (.slice (some ⟨g, 0, Option.none⟩) k c) wx := by
    intro wx
    rw [run_slice_h (P := P) wx T _ n c (by rw [he]; exact hu) kd (k : Int) (by omega) (by omega)]
    simp [sizeOf, typeInfo, he, hf, hf1, Result.andThen, sliced, Addr.add_zero']
  refine ⟨fun wx => ?_, hrun⟩
  rw [run_sliceAt_slice (P := P) wx T _ _ _ _ (by rw [he]; exact hu)]
  exact hrun wx

/-- What DeleteFunc leaves. -/
def DelPost (v : Value) (L : List WR) (i : Nat) (w : World) (e : Ending) (w' : World) : Prop :=
  ∃ v', e = .returned v' ∧ w'.ownsRow 0 109 17 v' (L.filter (offW i)).length ((L.filter (offW i)).map wrC).flatten ∧ (∀ g, v'.ownBlock = some g → v.ownBlock = some g) ∧ Keeps (fun g => v.ownBlock = some g) w w'

set_option maxHeartbeats 1000000 in
theorem ddelete_any (v : Value) (L : List WR) (bi i : Nat) (w : World) (hown : w.ownsRow 0 109 17 v L.length (L.map wrC).flatten) (hL : ∀ x ∈ L, x.2.length = 16) (hc : w.cell? ⟨bi, 0, none⟩ = some (.int .i64 (i : Int))) (hvb : v.ownBlock ≠ some bi) :
    Calls Tryd.prog 52 #[v, .func (.func 53) #[] #[.pointer (some ⟨bi, 0, none⟩)]] w (DelPost v L i w) := by
  have wide : ∀ (R : List WR), (∀ x ∈ R, x.2.length = 16) → ∀ x ∈ R.map wrC, x.length = 17 := fun R hR x hx => by obtain ⟨e, he, rfl⟩ := List.mem_map.1 hx; simp [wrC, blkC, hR e he]
  obtain ⟨a, c, rfl, hs, ha⟩ := SlK.ofOwn (k := 17) (by decide) (wide L hL) hown
  have hwm := hs.max
  have hwl := hs.le
  unfold maxLen at hwm
  go_enter Tryd.func52, Tryd.ntmps52
  go_wp2_with fail
  refine (dindex_any a _ c L bi i w hs hL hc).mono ?_
  rintro e w1 ⟨r, rfl, hk1, hr⟩
  rcases hr with ⟨rfl, hf⟩ | ⟨m, rfl, hm, hf⟩
  · have Hf := Lib.hid hf
    clear hf
    go_wp2_with fail
    go_ret
    exact ⟨_, rfl, by rw [Hf.out]; exact hk1.own hown (fun _ _ => not_No _), fun g h => h, hk1.no⟩
  obtain ⟨g, hg, _, hgl⟩ := ha _ (hs.isSome hm)
  have hsome := hs.isSome hm
  rw [hg] at hsome
  subst hsome
  have Hf := Lib.hid hf
  have hk1' : Keeps (fun j => j = g) w w1 := hk1.no
  clear hf hg ha
  have q1 : ((m : Int) == -1) = false := by rw [beq_eq_false_iff_ne]; omega
  have hgb : g ≠ bi := fun e => hvb (by rw [e]; rfl)
  go_wp2_with fail
  go_loopg [5, 6] (L.length - (m + 1)) (fun q s5 s6 wr => ∃ (k j : Nat) (R : List WR), k < j ∧ j ≤ L.length ∧ q = L.length - j ∧ R.length = L.length ∧ s5 = .int .i64 (k : Int) ∧ s6 = .int .i64 (j : Int) ∧ R.take k = (L.take j).filter (offW i) ∧ R.drop j = L.drop j ∧ (∀ x ∈ R, x.2.length = 16) ∧
      wr.ownsRow 0 109 17 (.slice (some ⟨g, 0, none⟩) L.length c) L.length (R.map wrC).flatten ∧ Keeps (fun j => j = g) w wr)
  case atStart => exact ⟨m, m + 1, L, by omega, by omega, rfl, rfl, rfl, by go_num, Hf.out.symm, rfl, hL, hk1.own hown (fun _ _ => not_No _), hk1'⟩
  case round =>
    obtain ⟨k, j, R, hkj, hj, hq, hRl, rfl, rfl, hRk, hRd, hR16, hor, hkr⟩ := hrel
    have Hq := Lib.hid hq
    have HRl := Lib.hid hRl
    have HRk := Lib.hid hRk
    have HRd := Lib.hid hRd
    clear hq hRl hRk hRd
    obtain ⟨ar, cr, hre, hsr, _⟩ := SlK.ofOwn (k := 17) (by decide) (wide R hR16) hor
    obtain ⟨rfl, rfl⟩ : some ⟨g, 0, none⟩ = ar ∧ c = cr := by
      simp only [Value.slice.injEq] at hre
      exact ⟨hre.1, hre.2.2⟩
    clear hre
    have hgr := (hor.lt g rfl).2
    by_cases hlt : j < L.length
    · have hltR : j < R.length := by rw [HRl.out]; exact hlt
      have hix := hsr.ix (P := Tryd.prog) Tryd.underlying98 write_size hlt .i64
      obtain ⟨hld, _⟩ := hsr.load (P := Tryd.prog) (ty := 109) Tryd.underlying109 rfl write_size hlt
      obtain ⟨x, hx⟩ : ∃ x, x = R[j] := ⟨_, rfl⟩
      have hxc : (R.map wrC).getD j [] = wrC x := by rw [hx]; simp [hltR]
      have hx16 := hR16 x (by rw [hx]; exact List.getElem_mem hltR)
      have hxL : L[j] = x := by
        have h1 : (R.drop j)[0]? = (L.drop j)[0]? := by rw [HRd.out]
        rw [List.getElem?_drop, List.getElem?_drop, Nat.add_zero, List.getElem?_eq_getElem hltR, List.getElem?_eq_getElem hlt] at h1
        rw [hx]; injection h1 with h1; exact h1.symm
      have hd1 : R.drop (j + 1) = L.drop (j + 1) := by
        have h2 := congrArg (List.drop 1) HRd.out
        rwa [List.drop_drop, List.drop_drop] at h2
      rw [hxc] at hld
      simp only [Option.getD_some, Addr.add_lit, Nat.zero_add] at hix hld
      have hxs := wrA_size x hx16
      have HXS := Lib.hid hxs
      have HX16 := Lib.hid hx16
      have HXL := Lib.hid hxL
      have HD1 := Lib.hid hd1
      clear hxc hx hxs hx16 hxL hd1
      have hixk := hsr.ix (P := Tryd.prog) Tryd.underlying98 write_size (i := k) (by omega) .i64
      simp only [Option.getD_some, Addr.add_lit, Nat.zero_add] at hixk
      have hbN := heap_alloc_new wr (.cells #[.int .i64 0, .int .u8 0, .int .u8 0, .int .u8 0, .int .u8 0, .int .u8 0, .int .u8 0, .int .u8 0, .int .u8 0, .int .u8 0, .int .u8 0, .int .u8 0, .int .u8 0, .int .u8 0, .int .u8 0, .int .u8 0, .int .u8 0] 109)
      have hkN : Keeps No wr (wr.alloc (.cells #[.int .i64 0, .int .u8 0, .int .u8 0, .int .u8 0, .int .u8 0, .int .u8 0, .int .u8 0, .int .u8 0, .int .u8 0, .int .u8 0, .int .u8 0, .int .u8 0, .int .u8 0, .int .u8 0, .int .u8 0, .int .u8 0, .int .u8 0] 109)) := (Keeps.refl No wr).alloc _
      go_wp2_with (first | (refine wpList_storeRow rfl 109 (.tmp 7) (.tmp 25) rfl wr.heap.size (wrC x).toArray rfl rfl 109 _ hbN (by rw [HXS.out]; exact write_size) (by rw [HXS.out]; rfl) (wrA_one x) ?_) | (refine wpList_loadV rfl 109 (.tmp 24) rfl _ rfl _ hld ?_))
      intro w5 hb5 hz5 hk5
      have hkr5 : Keeps No wr w5 := hkN.trans hk5 (fun i hi e => by omega)
      have hk05 := hkr.transNo hkr5
      have hor5 := own_keepB hor hkr5 (not_No _)
      have hc5 := hk05.cell hc (fun e => hgb e.symm)
      obtain ⟨_, _, hl5⟩ := wr_cells hb5 HX16.out
      have hcl := dclo_any x bi i w5 HX16.out hc5
      clear hbN hkN hk5 hld hix hor hz5
      by_cases hxi : x.1 = i
      · rw [decide_eq_true hxi] at hcl
        have HXI := Lib.hid hxi
        clear hxi
        go_wp2_with (refine wpList_loadV (op := ⟨some 27, _, _, _, _, _⟩) rfl 109 (.tmp 7) rfl _ rfl _ hl5 ?_)
        refine hcl.mono ?_
        rintro e w6 ⟨rfl, hk6⟩
        go_wp2_with fail
        go_roundg (L.length - (j + 1))
        case measure => have := Hq.out; omega
        case rel => exact ⟨k, j + 1, R, by omega, by omega, rfl, HRl.out, rfl, by go_num, by rw [HRk.out, filter_hit L i j hlt (by rw [HXL.out]; exact HXI.out)], HD1.out, hR16, own_keepB hor5 hk6 (not_No _), hk05.transNo hk6⟩
      · rw [decide_eq_false hxi] at hcl
        have HXI := Lib.hid hxi
        clear hxi
        go_wp2_with (refine wpList_loadV (op := ⟨some 27, _, _, _, _, _⟩) rfl 109 (.tmp 7) rfl _ rfl _ hl5 ?_)
        refine hcl.mono ?_
        rintro e w6 ⟨rfl, hk6⟩
        obtain ⟨_, _, hl6⟩ := wr_cells (hk6.blk hb5 (not_No _)) HX16.out
        have hor6 := own_keepB hor5 hk6 (not_No _)
        go_wp2_with (first | (refine wpList_storeOwn (o := ⟨none, _, _, _, _, _⟩) rfl 109 (.tmp 33) (.tmp 32) rfl 0 109 17 g L.length c (R.map wrC) hor6 (wide R hR16) k (by omega) (by rw [List.length_map, HRl.out]) (wrC x).toArray HXS.out (by rw [Addr.add_lit, Nat.zero_add]; rfl) rfl write_size (wrA_one x) ?_) | (refine wpList_loadV (op := ⟨some 32, _, _, _, _, _⟩) rfl 109 (.tmp 7) rfl _ rfl _ hl6 ?_))
        intro w7 hown7 hz7 hk7
        go_wp2_with fail
        go_roundg (L.length - (j + 1))
        case measure => have := Hq.out; omega
        case rel =>
          refine ⟨k + 1, j + 1, R.set k x, by omega, by omega, rfl, by rw [List.length_set, HRl.out], by go_num, by go_num, ?_, ?_, ?_, ?_, (hk05.transNo hk6).trans hk7 (fun _ _ h => h)⟩
          · rw [filter_miss L i j hlt (by rw [HXL.out]; exact HXI.out), ← HRk.out, HXL.out, List.take_succ_eq_append_getElem (by rw [List.length_set, HRl.out]; omega), List.take_set_of_le (by omega)]
            simp
          · rw [List.drop_set, if_pos (by omega)]; exact HD1.out
          · intro y hy
            rcases List.mem_or_eq_of_mem_set hy with h | h
            · exact hR16 y h
            · rw [h]; exact HX16.out
          · simpa [List.map_set] using hown7
    · obtain rfl : L.length = j := by omega
      have hkn : k < L.length := by omega
      obtain ⟨hsl1, hsl1'⟩ := hsr.from_ (P := Tryd.prog) Tryd.underlying98 write_size hkn .i64
      obtain ⟨hsl2, hsl2'⟩ := hsr.upto (P := Tryd.prog) Tryd.underlying98 write_size (k := k) (by omega) .i64
      have hz17 : ∀ v ∈ (Value.agg (.int .i64 0 :: List.replicate 16 (.int .u8 0)).toArray).cells, v.oneCell' = true := by intro v hv; simp [Value.cells] at hv; rcases hv with rfl | rfl <;> rfl
      have hzs : (Value.agg (.int .i64 0 :: List.replicate 16 (.int .u8 0)).toArray).cells.size = 17 := rfl
      obtain ⟨w8, hrun8, hown8, hz8, hk8⟩ := run_clear_own (P := Tryd.prog) wr 98 109 0 0 17 g L.length c k (c - k) 24 _ _ Tryd.underlying98 write_info hzs (by decide) hz17 hor (by omega)
      have Hz8 := Lib.hid hz8
      clear hz17 hzs hz8
      go_wp2_with fail
      go_ret
      have hfin : L.filter (offW i) = R.take k := by have := HRk.out; rw [List.take_length] at this; exact this.symm
      refine ⟨_, rfl, ?_, fun g' h => h, (hkr.trans hk8 (fun _ _ h => h)).mono (fun j _ h => by rw [h]; rfl)⟩
      rw [hfin, List.length_take, HRl.out, Nat.min_eq_left (by omega)]
      have e1 : (R.map wrC).flatten.take (k * 17) = ((R.take k).map wrC).flatten := by
        have hw := wide R hR16
        have hd : R = R.take k ++ R.drop k := (List.take_append_drop k R).symm
        have hl : ((R.take k).map wrC).flatten.length = k * 17 := by
          rw [flat_length _ (wide (R.take k) (fun x hx => hR16 x (List.mem_of_mem_take hx))), List.length_map, List.length_take, HRl.out, Nat.min_eq_left (by omega)]
        conv => lhs; rw [hd, List.map_append, List.flatten_append, List.take_append_of_le_length (by omega), List.take_of_length_le (by omega)]
      rw [← e1]
      exact hown8

theorem dover_nil (i : Int) (a : Option Addr) (n c : Nat) (w : World) :
    Calls Tryd.prog 18 #[.pointer none, .int .i64 i, .slice a n c] w fun e w' => e = .returned (.int .i64 1) ∧ Keeps No w w' := by
  go_enter Tryd.func18, Tryd.ntmps18
  go_wp2_with fail
  refine (dright_nil _ _ _ _ _).mono ?_
  rintro e w1 ⟨rfl, rfl⟩
  go_wp2_with fail
  go_ret
  exact ⟨rfl, (Keeps.refl No w).alloc _⟩
theorem dover_bad (b : Nat) (F : Nat → Prop) (d : DS) (i : Int) (a : Option Addr) (n c : Nat) (w : World) (h : Dv w b F d) (hr : rightD d.K.length i n = false) (hn : n ≤ 140737488351232) :
    Calls Tryd.prog 18 #[.pointer (some ⟨b, 0, none⟩), .int .i64 i, .slice a n c] w fun e w' => e = .returned (.int .i64 2) ∧ Keeps No w w' := by
  go_enter Tryd.func18, Tryd.ntmps18
  go_wp2_with fail
  refine (dright_no b F d i _ _ _ _ (h.kept ((Keeps.refl No w).alloc _)) hr hn).mono ?_
  rintro e w1 ⟨rfl, rfl⟩
  go_wp2_with fail
  go_ret
  exact ⟨rfl, (Keeps.refl No w).alloc _⟩

set_option maxHeartbeats 1000000 in
theorem dover_ok (b : Nat) (F : Nat → Prop) (d : DS) (i : Int) (a : Option Addr) (n c : Nat) (p : List UInt8) (w : World) (h : Dv w b F d) (hr : rightD d.K.length i n = true)
    (hs : Sl w a n c (p.map byteV)) (hin : 0 < n → ¬ F (a.getD default).block) :
    Calls Tryd.prog 18 #[.pointer (some ⟨b, 0, none⟩), .int .i64 i, .slice a n c] w fun e w' => e = .returned (.int .i64 0) ∧
      Dv w' b F ⟨d.K.set i.toNat (full p), d.W.filter (offW i.toNat), d.lim⟩ ∧ Keeps F w w' := by
  have hlen : p.length = n := by simpa using hs.len
  have hri := hr
  unfold rightD at hri
  simp at hri
  obtain ⟨⟨hi0, hiK⟩, hn16⟩ := hri
  obtain ⟨j, rfl⟩ : ∃ j : Nat, i = (j : Int) := ⟨i.toNat, by omega⟩
  have hjK : j < d.K.length := by omega
  have Hlen := Lib.hid hlen
  clear hlen
  have hkA : Keeps No w (w.alloc (.cells #[.int .i64 (j : Int)] 3)) := (Keeps.refl No w).alloc _
  have hbA := heap_alloc_new w (.cells #[.int .i64 (j : Int)] 3)
  have hA := h.kept hkA
  have hsA := hs.kept hkA
  obtain ⟨kb, ck, vw, cl, h1, h2, h3, h4, h5, h5', h6, h7, h8, h9, h10, h11⟩ := hA
  have hA := h.kept hkA
  have hlt := h.lt
  have hF10 := Lib.hid h10
  obtain ⟨aw, cw, rfl, hsw, haw⟩ := SlK.ofOwn (k := 17) (by decide) (by intro x hx; obtain ⟨e, he, rfl⟩ := List.mem_map.1 hx; simp [wrC, blkC, (h11.ww e he).1]) h3
  have hbl := hlt b h6
  have hkl := hlt kb h7
  have hvA : (Value.slice aw d.W.length cw).ownBlock ≠ some w.heap.size := fun e => by have := hlt _ (h8 _ e).1; omega
  have hvb : (Value.slice aw d.W.length cw).ownBlock ≠ some b := fun e => (h8 b e).2.1 rfl
  have hvk : (Value.slice aw d.W.length cw).ownBlock ≠ some kb := fun e => (h8 kb e).2.2 rfl
  have hdel := ddelete_any _ d.W w.heap.size j _ h3 (fun x hx => (h11.ww x hx).1) (cell_of_row _ w.heap.size 0 _ _ (0, 0) hbA) hvA
  have hfl := full_len p (by rw [Hlen.out]; exact hn16)
  have HFL := Lib.hid hfl
  have hcA := cell_of_row _ w.heap.size 0 _ _ (0, 0) hbA
  have hc1A := cell_of_row _ b 1 _ _ (0, 0) h1
  obtain ⟨ak, ck', hke, hsk, _⟩ := SlK.ofOwn (k := 16) (by decide) (by intro x hx; obtain ⟨e, he, rfl⟩ := List.mem_map.1 hx; rw [blkC_len]; exact h11.kw e he) h2
  obtain ⟨rfl, rfl⟩ : some ⟨kb, 0, none⟩ = ak ∧ ck = ck' := by
    simp only [Value.slice.injEq] at hke
    exact ⟨hke.1, hke.2.2⟩
  have hixk := hsk.ix (P := Tryd.prog) Tryd.underlying97 block_size hjK .i64
  simp only [Option.getD_some, Addr.add_lit, Nat.zero_add] at hixk
  have hik : 0 < n → (a.getD default).block < w.heap.size := fun h0 => hs.lt h0
  clear hfl hsw haw hke hsk
  go_enter Tryd.func18, Tryd.ntmps18
  go_wp2_with fail
  refine (dright_yes b F d j _ _ _ _ hA hr (by omega)).mono ?_
  rintro e w1 ⟨rfl, rfl⟩
  clear hr hA
  go_wp2_with fail
  refine hdel.mono ?_
  rintro e w2 ⟨v2, rfl, hown2, hv2, hk2⟩
  clear hdel hc1A
  obtain ⟨a2, c2, rfl, _, _⟩ := SlK.ofOwn (k := 17) (by decide) (by intro x hx; obtain ⟨e, he, rfl⟩ := List.mem_map.1 hx; simp [wrC, blkC, (h11.ww e (List.mem_filter.1 he).1).1]) hown2
  have hb2 := hk2.blk h1 hvb
  have hc2 := cell_of_row w2 b 1 _ _ (0, 0) hb2
  have hf2 := frozen_of_row w2 b 1 _ _ hb2
  have hb3 := heap_setCell_same w2 b 1 _ _ (.slice a2 (d.W.filter (offW j)).length c2) hb2
  have hk3 := Keeps.set w2 b 1 (.slice a2 (d.W.filter (offW j)).length c2)
  have hA2 := hk2.blk hbA hvA
  have hA3 := hk3.blk hA2 (by omega)
  have h2K : (w2.setCell ⟨b, 1, none⟩ (.slice a2 (d.W.filter (offW j)).length c2)).ownsRow 0 107 16 (.slice (some ⟨kb, 0, none⟩) d.K.length ck) d.K.length (d.K.map blkC).flatten := own_keepB (own_keepB h2 hk2 hvk) hk3 (fun e => h9 e.symm)
  have hs3 : Sl (w2.setCell ⟨b, 1, none⟩ (.slice a2 (d.W.filter (offW j)).length c2)) a n c (p.map byteV) := (hsA.keep hk2 (fun h0 e => hin h0 ((h8 _ e).1))).keep hk3 (fun h0 e => hin h0 (by rw [e]; exact h6))
  have Hown2 := Lib.hid hown2
  have hkw3 : Keeps F w (w2.setCell ⟨b, 1, none⟩ (.slice a2 (d.W.filter (offW j)).length c2)) := (hkA.noTrans hk2 (S := F) (fun g _ hg => (h8 g hg).1)).trans hk3 (fun g _ hg => by rw [hg]; exact h6)
  go_wp2_with fail
  obtain ⟨w3, hw3⟩ : ∃ w3, w3 = w2.setCell ⟨b, 1, none⟩ (.slice a2 (d.W.filter (offW j)).length c2) := ⟨_, rfl⟩
  rw [← hw3] at hb3 hk3 hA3 h2K hs3 hkw3 ⊢
  have HW3 := Lib.hid hw3
  have hz3 := hkw3.size
  clear hw3 hc2 hf2 hA2 hb2
  have hcB := fun wx (hx : Keeps No w3 wx) => cell_of_row wx b 0 _ _ (0, 0) (hx.blk hb3 (not_No _))
  have hcI := fun wx (hx : Keeps No w3 wx) => cell_of_row wx w.heap.size 0 _ _ (0, 0) (hx.blk hA3 (not_No _))
  refine region_L (fun wx => Keeps No w3 wx ∧ wx.cell? ⟨b, 0, none⟩ = some (.slice (some ⟨kb, 0, none⟩) d.K.length ck) ∧ wx.cell? ⟨w.heap.size, 0, none⟩ = some (.int .i64 (j : Int))) 8 (by kernel_rfl) (⟨(Keeps.refl _ _).drew, hcB _ (Keeps.refl _ _).drew, hcI _ (Keeps.refl _ _).drew⟩) (fun hS => ?_)
  refine tkL (i := 0) (oi := ⟨some 24, _, _, _, _, _⟩) (v := ?_) rfl (by kernel_rfl) (fun _ _ _ h => h) (by assumption) (by rfl) (fun w hSw => ?_) ?_; rotate_left; (focus (first | (go_simp; done) | (go_simp; with_reducible rfl))); simp only [Act.put, List.setIfInBounds_toArray, List.set_cons_zero, List.set_cons_succ]
  refine tkL (i := 1) (oi := ⟨some 25, _, _, _, _, _⟩) (v := ?_) rfl (by kernel_rfl) (fun _ _ _ h => h) (by assumption) (by rfl) (fun w hSw => ?_) ?_; rotate_left; (focus (first | (go_simp; done) | (go_simp; with_reducible rfl))); simp only [Act.put, List.setIfInBounds_toArray, List.set_cons_zero, List.set_cons_succ]
  refine tkL (i := 2) (oi := ⟨some 26, _, _, _, _, _⟩) (v := ?_) rfl (by kernel_rfl) (fun _ _ _ h => h) (by assumption) (by rfl) (fun w hSw => ?_) ?_; rotate_left; (focus (first | (go_simp; done) | (go_simp; with_reducible rfl))); simp only [Act.put, List.setIfInBounds_toArray, List.set_cons_zero, List.set_cons_succ]
  refine tkL (i := 3) (oi := ⟨some 27, _, _, _, _, _⟩) (v := ?_) rfl (by kernel_rfl) (fun _ _ _ h => h) (by assumption) (by rfl) (fun w hSw => ?_) ?_; rotate_left; (focus (first | (go_simp; done) | (go_simp; with_reducible rfl))); simp only [Act.put, List.setIfInBounds_toArray, List.set_cons_zero, List.set_cons_succ]
  refine tkL (i := 4) (oi := ⟨some 28, _, _, _, _, _⟩) (v := ?_) rfl (by kernel_rfl) (fun _ _ _ h => h) (by assumption) (by rfl) (fun w hSw => ?_) ?_; rotate_left; (focus (first | (go_simp; done) | (go_simp; with_reducible rfl))); simp only [Act.put, List.setIfInBounds_toArray, List.set_cons_zero, List.set_cons_succ]
  refine tkL (i := 5) (oi := ⟨some 29, _, _, _, _, _⟩) (v := ?_) rfl (by kernel_rfl) (fun _ _ _ h => h) (by assumption) (by rfl) (fun w hSw => ?_) ?_; rotate_left; (focus (first | (go_simp; done) | (go_simp; with_reducible rfl))); simp only [Act.put, List.setIfInBounds_toArray, List.set_cons_zero, List.set_cons_succ]
  refine aloneL (i := 6) (oi := ⟨some 30, _, _, _, _, _⟩) rfl (by kernel_rfl) (by rfl) (fun K hK => ?_); go_simp
  refine (filled_any a n c p _ (hs3.kept hS.1) (by omega)).mono ?_
  rintro e w4 ⟨rfl, hk4⟩
  have hX4 := hS.1.transNo hk4
  go_simp
  refine hK.out (fun wx => Keeps No w3 wx ∧ wx.cell? ⟨b, 0, none⟩ = some (.slice (some ⟨kb, 0, none⟩) d.K.length ck) ∧ wx.cell? ⟨w.heap.size, 0, none⟩ = some (.int .i64 (j : Int))) _ _ (fun _ h => h) (fun _ => ⟨hX4, hcB _ hX4, hcI _ hX4⟩) ?_
  clear hK K hS
  intro hS
  replace hS := hS rfl
  refine tkL (i := 7) (oi := ⟨some 31, _, _, _, _, _⟩) (v := ?_) rfl (by kernel_rfl) (fun _ _ _ h => h) (by assumption) (by rfl) (fun w hSw => ?_) ?_; rotate_left; (focus (first | (go_simp; done) | (go_simp; with_reducible rfl))); simp only [Act.put, List.setIfInBounds_toArray, List.set_cons_zero, List.set_cons_succ]
  refine aloneL (i := 8) (oi := ⟨none, _, _, _, _, _⟩) rfl (by kernel_rfl) (by rfl) (fun K hK => ?_)
  have hkS := hS.1
  refine wp_storeOwn 107 (.tmp 31) (.tmp 30) rfl 0 107 16 kb d.K.length ck (d.K.map blkC) (own_keepB h2K hS.1 (not_No _)) (by intro x hx; obtain ⟨e, he, rfl⟩ := List.mem_map.1 hx; rw [blkC_len]; exact h11.kw e he) j hjK (by rw [List.length_map]) (blkC (full p)).toArray (blkA_size _ HFL.out) (by rw [Addr.add_lit, Nat.zero_add]; rfl) rfl block_size (blkA_one _) ?_
  intro w5 hown5 hz5 hk5
  refine hK.out (fun wx => Keeps No w3 wx ∧ wx.cell? ⟨b, 0, none⟩ = some (.slice (some ⟨kb, 0, none⟩) d.K.length ck) ∧ wx.cell? ⟨w.heap.size, 0, none⟩ = some (.int .i64 (j : Int))) _ _ (fun _ h => h) (fun e => absurd (show true = false from e) (by decide)) ?_
  clear hK K hS
  intro hS
  refine doneL (by kernel_rfl) ?_ _
  go_wp2_with fail
  go_ret
  have hk35 : Keeps (fun g => g = kb) w3 w5 := (hkS.no (S := fun g => g = kb)).trans hk5 (fun _ _ h => h)
  refine ⟨rfl, ⟨kb, ck, .slice a2 (d.W.filter (offW j)).length c2, cl, ?_, ?_, ?_, h4, h5, h5', h6, h7, fun g hg => h8 g (hv2 g hg), h9, ?_, ?_⟩, hkw3.trans hk35 (fun g _ hg => by rw [hg]; exact h7)⟩
  · simp only [List.length_set]
    exact hk35.blk hb3 h9
  · simp only [List.length_set]
    simpa [List.map_set] using hown5
  · refine hk35.own (hk3.own Hown2.out (fun g hg e => ?_)) (fun g hg e => ?_)
    · exact (h8 g (hv2 g hg)).2.1 e
    · exact (h8 g (hv2 g hg)).2.2 e
  · intro g hg
    have := h.lt g hg
    have := hk35.size
    omega
  · refine ⟨fun x hx => ?_, fun x hx => ?_⟩
    · rcases List.mem_or_eq_of_mem_set hx with h' | h'
      · exact h11.kw x h'
      · rw [h']; exact HFL.out
    · have := h11.ww x (List.mem_filter.1 hx).1
      exact ⟨this.1, by simpa using this.2⟩

theorem dblocks_any (b : Nat) (F : Nat → Prop) (d : DS) (w : World) (h : Dv w b F d) :
    Calls Tryd.prog 47 #[.pointer (some ⟨b, 0, none⟩)] w fun e w' => e = .returned (.int .i64 (d.K.length : Int)) ∧ w = w' := by
  obtain ⟨kb, ck, vw, cl, h1, _⟩ := h
  have hc0 := cell_of_row w b 0 _ _ (0, 0) h1
  clear h1
  go_enter Tryd.func47, Tryd.ntmps47
  go_wp2_with fail
  go_ret
  exact ⟨rfl, rfl⟩
theorem dblocks_nil (w : World) :
    Calls Tryd.prog 47 #[.pointer none] w fun e w' => e = .returned (.int .i64 0) ∧ w = w' := by
  go_enter Tryd.func47, Tryd.ntmps47
  go_wp2_with fail
  go_ret
  exact ⟨rfl, rfl⟩
theorem dwaiting_any (b : Nat) (F : Nat → Prop) (d : DS) (w : World) (h : Dv w b F d) :
    Calls Tryd.prog 41 #[.pointer (some ⟨b, 0, none⟩)] w fun e w' => e = .returned (.int .i64 (d.W.length : Int)) ∧ w = w' := by
  obtain ⟨kb, ck, vw, cl, h1, h2, h3, h4, h5, h5', h6, h7, h8, h9, h10, h11⟩ := h
  obtain ⟨aw, cw, rfl, hsw, haw⟩ := SlK.ofOwn (k := 17) (by decide) (by intro x hx; obtain ⟨e, he, rfl⟩ := List.mem_map.1 hx; simp [wrC, blkC, (h11.ww e he).1]) h3
  have hc0 := cell_of_row w b 1 _ _ (0, 0) h1
  clear h1
  go_enter Tryd.func41, Tryd.ntmps41
  go_wp2_with fail
  go_ret
  exact ⟨rfl, rfl⟩
theorem dwaiting_nil (w : World) :
    Calls Tryd.prog 41 #[.pointer none] w fun e w' => e = .returned (.int .i64 0) ∧ w = w' := by
  go_enter Tryd.func41, Tryd.ntmps41
  go_wp2_with fail
  go_ret
  exact ⟨rfl, rfl⟩

/-! The acts, whole. -/
theorem d_read (b : Nat) (F : Nat → Prop) (d : DS) (i : Int) (w : World) (h : Dv w b F d) :
    Calls Tryd.prog 17 #[.pointer (some ⟨b, 0, none⟩), .int .i64 i] w fun e w' =>
      ∃ v, e = .returned (.tuple #[v, .int .i64 (d.read i).2]) ∧ w'.ownsRow w.heap.size 5 1 v (d.read i).1.length ((d.read i).1.map byteV) ∧ Keeps No w w' := by
  unfold DS.read
  by_cases hr : rightD d.K.length i 0 = true
  · rw [if_pos hr]
    by_cases hl : d.lim = some 0
    · rw [if_pos hl]
      refine (dread_off b F d i w h hr hl).mono ?_
      rintro e w1 ⟨rfl, rfl⟩
      exact ⟨_, rfl, World.ownsRow_nil _ _ _ _, Keeps.refl _ _⟩
    · rw [if_neg hl]
      refine (dread_ok b F d i w h hr hl).mono ?_
      rintro e w1 ⟨v, rfl, h1, h2⟩
      have hl16 : (d.at_ i.toNat).length = 16 := by
        have hk := h.ok
        unfold rightD at hr
        simp at hr
        have hj : i.toNat < d.K.length := by omega
        exact lastW_len _ (fun x hx => (hk.ww x hx).1) _ _ (hk.kw _ (by simp [hj]))
      exact ⟨v, rfl, by rw [hl16]; exact h1, h2⟩
  · rw [if_neg hr]
    refine (dread_bad b F d i w h (by simpa using hr)).mono ?_
    rintro e w1 ⟨rfl, rfl⟩
    exact ⟨_, rfl, World.ownsRow_nil _ _ _ _, Keeps.refl _ _⟩
theorem d_write (b : Nat) (F : Nat → Prop) (d : DS) (i : Int) (a : Option Addr) (n c : Nat) (p : List UInt8) (w : World) (h : Dv w b F d) (hs : Sl w a n c (p.map byteV)) (hn : n ≤ 140737488351232) (hin : 0 < n → ¬ F (a.getD default).block) (hW : d.W.length ≤ 1099511627776) :
    Calls Tryd.prog 40 #[.pointer (some ⟨b, 0, none⟩), .int .i64 i, .slice a n c] w fun e w' => e = .returned (.int .i64 (d.write i p).2) ∧
      ∃ F', Dv w' b F' (d.write i p).1 ∧ Step F F' w w' := by
  have hlen : p.length = n := by simpa using hs.len
  unfold DS.write
  rw [hlen]
  by_cases hr : rightD d.K.length i n = true
  · rw [if_pos hr]
    by_cases hl : d.lim = some 0
    · rw [if_pos hl]
      refine (dwrite_off b F d i a n c w h hr hn hl).mono ?_
      rintro e w1 ⟨rfl, rfl⟩
      exact ⟨rfl, F, h, Step.refl _ _⟩
    · rw [if_neg hl]
      exact dwrite_ok b F d i a n c p w h hr hl hs hin hW
  · rw [if_neg hr]
    refine (dwrite_bad b F d i a n c w h (by simpa using hr) hn).mono ?_
    rintro e w1 ⟨rfl, rfl⟩
    exact ⟨rfl, F, h, Step.refl _ _⟩
theorem d_sync (b : Nat) (F : Nat → Prop) (d : DS) (w : World) (h : Dv w b F d) :
    Calls Tryd.prog 35 #[.pointer (some ⟨b, 0, none⟩)] w fun e w' => e = .returned (.int .i64 d.sync.2) ∧ Dv w' b F d.sync.1 ∧ Keeps F w w' := by
  unfold DS.sync
  by_cases hl : d.lim = some 0
  · rw [if_pos hl]
    refine (dsync_off b F d w h hl).mono ?_
    rintro e w1 ⟨rfl, rfl⟩
    exact ⟨rfl, h, Keeps.refl _ _⟩
  · rw [if_neg hl]
    exact dsync_ok b F d w h hl
theorem d_over (b : Nat) (F : Nat → Prop) (d : DS) (i : Int) (a : Option Addr) (n c : Nat) (p : List UInt8) (w : World) (h : Dv w b F d) (hs : Sl w a n c (p.map byteV)) (hn : n ≤ 140737488351232) (hin : 0 < n → ¬ F (a.getD default).block) :
    Calls Tryd.prog 18 #[.pointer (some ⟨b, 0, none⟩), .int .i64 i, .slice a n c] w fun e w' => e = .returned (.int .i64 (d.over i p).2) ∧ Dv w' b F (d.over i p).1 ∧ Keeps F w w' := by
  have hlen : p.length = n := by simpa using hs.len
  unfold DS.over
  rw [hlen]
  by_cases hr : rightD d.K.length i n = true
  · rw [if_pos hr]
    exact dover_ok b F d i a n c p w h hr hs hin
  · rw [if_neg hr]
    refine (dover_bad b F d i a n c w h (by simpa using hr) hn).mono ?_
    rintro e w1 ⟨rfl, hk⟩
    exact ⟨rfl, h.kept hk, hk.no⟩
theorem d_new (n : Nat) (w : World) (h1 : 1 ≤ n) (h2 : n ≤ 4096) :
    Calls Tryd.prog 13 #[.int .i64 (n : Int)] w fun e w' => ∃ b F, e = .returned (.tuple #[.pointer (some ⟨b, 0, none⟩), .int .i64 0]) ∧ Dv w' b F ⟨List.replicate n (full []), [], none⟩ ∧ (∀ i, F i → w.heap.size ≤ i) ∧ Keeps No w w' := by
  refine (dnew_ok n w h1 h2).mono ?_
  rintro e w1 ⟨b, rfl, hd, hk⟩
  exact ⟨b, _, rfl, hd, fun i hi => hi.1, hk⟩
end Go.Proofs.YthimnkmoeonheaaDoor
