/- The walks of the document's answer for zones. -/
import Derived.Test.YtmhmpnbcjcmnnaaRefValD
namespace Go.Proofs.Ytmhmpnbcjcmnnaa
open Go.RowKit
set_option linter.unusedSimpArgs false
set_option linter.unusedVariables false

set_option maxRecDepth 100000 in
set_option maxHeartbeats 2000000 in
theorem refholds_any (op : Int) (a b : Va) (ha : a.wf) (hb : b.wf) (hsa : a.s.size ≤ 140737488355328) (hsb : b.s.size ≤ 140737488355328) (hop : (Lit.int .i64 op).wf = true) (w : World) : Calls Try.prog 26 #[.int .i64 op, a.agg, b.agg] w fun e w' => e = .returned (.int .i64 (zholds op a b)) ∧ Keeps No w w' := by
  have hcall := fun wx => refvcmp_any a b ha hb hsa hsb wx
  obtain ⟨R, hR⟩ : ∃ R, R = zholds op a b := ⟨_, rfl⟩
  rw [← hR]
  unfold zholds at hR
  generalize vcmp a b = C at hcall hR
  obtain ⟨c, ok⟩ := C
  simp only at hcall hR
  have HR := Lib.hid hR
  have hw := wf_i64_iff hop
  clear hR hop hsa hsb
  obtain ⟨ka, na, sa, fa⟩ := a
  obtain ⟨kb, nb, sb, fb⟩ := b
  unfold Va.agg at hcall ⊢
  simp only at hcall ⊢
  go_enter Try.func26, Try.ntmps26
  go_wp2_with fail
  refine (hcall _).mono ?_
  rintro e w1 ⟨rfl, hk1⟩
  have hk01 : Keeps No w w1 := (((Keeps.refl No w).alloc _).alloc _).transNo hk1
  clear hcall hk1
  cases ok
  · go_wp2_with fail
    go_ret
    exact ⟨by rw [HR.out]; rfl, hk01⟩
  by_cases h05 : op < 0 ∨ 5 < op
  · have e0 : (op == 0) = false := by simp; omega
    have e1 : (op == 1) = false := by simp; omega
    have e2 : (op == 2) = false := by simp; omega
    have e3 : (op == 3) = false := by simp; omega
    have e4 : (op == 4) = false := by simp; omega
    have e5 : (op == 5) = false := by simp; omega
    have hr : R = 2 := by rw [HR.out, if_pos (by right; exact h05)]
    have Hr := Lib.hid hr
    clear hr
    go_wp2_with fail
    go_ret
    exact ⟨by rw [Hr.out]; rfl, hk01⟩
  have HR2 : Hid (R = if opYes op c = true then 1 else 0) := Lib.hid (by rw [HR.out, if_neg (by simp; omega)])
  clear HR
  rcases (show op = 0 ∨ op = 1 ∨ op = 2 ∨ op = 3 ∨ op = 4 ∨ op = 5 by omega) with rfl | rfl | rfl | rfl | rfl | rfl
  all_goals
    rcases Int.lt_trichotomy c 0 with hc | hc | hc
    · have e1 : (c == 0) = false := by simp; omega
      have e2 : (c != 0) = true := by simp; omega
      go_wp2_with fail
      go_ret
      exact ⟨by rw [HR2.out]; simp [opYes]; try omega, hk01⟩
    · subst hc
      go_wp2_with fail
      go_ret
      exact ⟨by rw [HR2.out]; simp [opYes]; try omega, hk01⟩
    · have e1 : (c == 0) = false := by simp; omega
      have e2 : (c != 0) = true := by simp; omega
      go_wp2_with fail
      go_ret
      exact ⟨by rw [HR2.out]; simp [opYes]; try omega, hk01⟩


theorem cmp3_range (a b : Int) : cmp3 a b = -1 ∨ cmp3 a b = 0 ∨ cmp3 a b = 1 := by unfold cmp3; split; exact .inl rfl; split; exact .inr (.inr rfl); exact .inr (.inl rfl)
theorem cmpB_range : ∀ a b : List UInt8, Lib.compareBytes a b = -1 ∨ Lib.compareBytes a b = 0 ∨ Lib.compareBytes a b = 1
  | [], [] => .inr (.inl rfl)
  | [], _ :: _ => .inl rfl
  | _ :: _, [] => .inr (.inr rfl)
  | a :: x, b :: y => by
    show (if a < b then (-1 : Int) else if b < a then 1 else Lib.compareBytes x y) = -1 ∨ (if a < b then (-1 : Int) else if b < a then 1 else Lib.compareBytes x y) = 0 ∨ (if a < b then (-1 : Int) else if b < a then 1 else Lib.compareBytes x y) = 1
    split
    · exact .inl rfl
    · split
      · exact .inr (.inr rfl)
      · exact cmpB_range x y
theorem orL_range (l : List Int) (h : ∀ x ∈ l, x = -1 ∨ x = 0 ∨ x = 1) : orL l = -1 ∨ orL l = 0 ∨ orL l = 1 := by
  induction l with
  | nil => exact .inr (.inl rfl)
  | cons x t ih =>
    by_cases h0 : x = 0
    · subst h0
      rw [orL_zero]
      exact ih (fun y hy => h y (by simp [hy]))
    · rw [orL_ne x t h0]
      exact h x (by simp)
theorem vorder_range (a b : Va) : vorder a b = -1 ∨ vorder a b = 0 ∨ vorder a b = 1 := by
  unfold vorder
  refine orL_range _ (fun x hx => ?_)
  simp only [List.mem_cons, List.not_mem_nil, or_false] at hx
  rcases hx with rfl | rfl | rfl | rfl
  · exact cmp3_range _ _
  · exact cmp3_range _ _
  · exact cmpB_range _ _
  · exact cmp3_range _ _

/-- What a zone of values is known to be. -/
structure Zo.Fine (z : Zo) (n : Nat) : Prop where
  r : z.r = (n : Int)
  nu0 : 0 ≤ z.nu
  nu1 : z.nu ≤ (n : Int)
  na0 : 0 ≤ z.na
  na1 : z.na ≤ (n : Int)
  mn : z.mn.k = 0 → z.mn = Va.zero
  mx : z.mx.k = 0 → z.mx = Va.zero
theorem wrapc {x : Int} (h : -9223372036854775808 ≤ x) (h2 : x ≤ 9223372036854775807) : IntKind.i64.wrap x = x := by rw [IntKind.wrap_i64]; omega
theorem pick_zero (a : Va) (side : Int) (h : a.k = 0 → a = Va.zero) : pickV a Va.zero side = a := by
  unfold pickV
  by_cases hk : a.k = 0
  · rw [if_pos (.inl hk), h hk]
  · rw [if_neg]
    rintro (h' | h')
    · exact hk h'
    · exact h'.1 rfl
theorem join_one {z : Zo} {n : Nat} (hz : z.Fine n) (hn : n < 1000000) (v : Va) : joinZ z (oneZ v) =
    if v.k = 0 ∨ rightV v = false then ⟨z.r + 1, z.nu + 1, z.na, z.mn, z.mx⟩ else if nanV v = true then ⟨z.r + 1, z.nu, z.na + 1, z.mn, z.mx⟩
    else ⟨z.r + 1, z.nu, z.na, if z.mn.k = 0 ∨ vorder v z.mn = -1 then v else z.mn, if z.mx.k = 0 ∨ vorder v z.mx = 1 then v else z.mx⟩ := by
  have h1 := hz.r
  have h2 := hz.nu0
  have h3 := hz.nu1
  have h4 := hz.na0
  have h5 := hz.na1
  unfold oneZ joinZ
  by_cases hk : v.k = 0 ∨ rightV v = false
  · rw [if_pos hk, if_pos hk]
    simp only
    rw [pick_zero _ _ hz.mn, pick_zero _ _ hz.mx, wrapc (by omega) (by omega), wrapc (by omega) (by omega), wrapc (by omega) (by omega), Int.add_zero]
  · rw [if_neg hk, if_neg hk]
    have hk0 : v.k ≠ 0 := fun h => hk (.inl h)
    by_cases hnn : nanV v = true
    · rw [if_pos hnn, if_pos hnn]
      simp only
      rw [pick_zero _ _ hz.mn, pick_zero _ _ hz.mx, wrapc (by omega) (by omega), wrapc (by omega) (by omega), wrapc (by omega) (by omega), Int.add_zero]
    · rw [if_neg hnn, if_neg hnn]
      simp only
      rw [wrapc (by omega) (by omega), wrapc (by omega) (by omega), wrapc (by omega) (by omega), Int.add_zero, Int.add_zero]
      unfold pickV
      simp only [hk0, ne_eq, not_false_eq_true, true_and]
theorem fine_step {z : Zo} {n : Nat} (hz : z.Fine n) (hn : n < 1000000) (v : Va) : (joinZ z (oneZ v)).Fine (n + 1) := by
  have h1 := hz.r
  have h2 := hz.nu0
  have h3 := hz.nu1
  have h4 := hz.na0
  have h5 := hz.na1
  rw [join_one hz hn v]
  by_cases hk : v.k = 0 ∨ rightV v = false
  · rw [if_pos hk]
    exact ⟨by simp; omega, by simp; omega, by simp; omega, h4, by simp; omega, hz.mn, hz.mx⟩
  · rw [if_neg hk]
    have hk0 : v.k ≠ 0 := fun h => hk (.inl h)
    by_cases hnn : nanV v = true
    · rw [if_pos hnn]
      exact ⟨by simp; omega, h2, by simp; omega, by simp; omega, by simp; omega, hz.mn, hz.mx⟩
    · rw [if_neg hnn]
      refine ⟨by simp; omega, h2, by simp; omega, h4, by simp; omega, ?_, ?_⟩
      · show (if z.mn.k = 0 ∨ vorder v z.mn = -1 then v else z.mn).k = 0 → (if z.mn.k = 0 ∨ vorder v z.mn = -1 then v else z.mn) = Va.zero
        split
        · intro h; exact absurd h hk0
        · exact hz.mn
      · show (if z.mx.k = 0 ∨ vorder v z.mx = 1 then v else z.mx).k = 0 → (if z.mx.k = 0 ∨ vorder v z.mx = 1 then v else z.mx) = Va.zero
        split
        · intro h; exact absurd h hk0
        · exact hz.mx
theorem fine_take (l : List Va) : ∀ j, j ≤ l.length → j ≤ 1000000 → (ofZ (l.take j)).Fine j := by
  intro j
  induction j with
  | zero => intro _ _; exact ⟨rfl, Int.le_refl _, Int.le_refl _, Int.le_refl _, Int.le_refl _, fun _ => rfl, fun _ => rfl⟩
  | succ j ih =>
    intro h hj
    rw [List.take_succ_eq_append_getElem (by omega), ofZ_snoc]
    exact fine_step (ih (by omega) (by omega)) (by omega) _
theorem fine_of (l : List Va) (h : l.length ≤ 1000000) : (ofZ l).Fine l.length := by
  have := fine_take l l.length (Nat.le_refl _) h
  rwa [List.take_length] at this

theorem ofZ_small (l : List Va) (h : ∀ v ∈ l, v.s.size ≤ 1000) : (ofZ l).mn.s.size ≤ 1000 ∧ (ofZ l).mx.s.size ≤ 1000 := by
  have hp : ∀ (a b : Va) (d : Int), a.s.size ≤ 1000 → b.s.size ≤ 1000 → (pickV a b d).s.size ≤ 1000 := fun a b d ha hb => by unfold pickV; split <;> assumption
  have h0 : Va.zero.s.size ≤ 1000 := Nat.zero_le _
  have hone : ∀ v : Va, v.s.size ≤ 1000 → (oneZ v).mn.s.size ≤ 1000 ∧ (oneZ v).mx.s.size ≤ 1000 := fun v hv => by
    unfold oneZ
    split
    · exact ⟨h0, h0⟩
    · split
      · exact ⟨h0, h0⟩
      · exact ⟨hv, hv⟩
  have : ∀ z : Zo, z.mn.s.size ≤ 1000 ∧ z.mx.s.size ≤ 1000 → (l.foldl (fun z v => joinZ z (oneZ v)) z).mn.s.size ≤ 1000 ∧ (l.foldl (fun z v => joinZ z (oneZ v)) z).mx.s.size ≤ 1000 := by
    induction l with
    | nil => intro z hz; exact hz
    | cons v t ih =>
      intro z hz
      have h1 := hone v (h v (by simp))
      exact ih (fun x hx => h x (by simp [hx])) _ ⟨hp _ _ _ hz.1 h1.1, hp _ _ _ hz.2 h1.2⟩
  exact this _ ⟨h0, h0⟩
theorem wpList_storeMid {P : Program} {ops : Array Oper} {rest : List Oper} {w : World} {o : Oper} {ac : Act} {Q : Exit → Act → World → Prop} (hgd : o.guard = none) (ty : TypeId) (x y : Operand) (ho : o.op = .store ty x y)
    (g p : Nat) (cells : Array Value) (hx : ac.eval x = .pointer (some ⟨g, p, none⟩)) (hy : ac.eval y = .agg cells)
    (t : TypeId) (old new : Array Value) (hg : w.heap[g]? = some (.cells old t (0, 0))) (hi : (P.info? ty).map (·.size) = some cells.size)
    (hold : p + cells.size ≤ old.size) (h1 : cells.all (·.oneCell') = true) (hn : new = (old.toList.take p ++ cells.toList ++ old.toList.drop (p + cells.size)).toArray)
    (h : ∀ w', w'.heap[g]? = some (.cells new t (0, 0)) → w'.heap.size = w.heap.size → Keeps (fun k => k = g) w w' → wpList P ops Q rest (ac.put o.dst undef) w') : wpList P ops Q (o :: rest) ac w :=
  wpList_plain hgd fun _ hK => wp_storeMid ty x y ho g p cells hx hy t old new hg hi hold h1 hn fun w' a b c => hK _ _ (h w' a b c)

def withR (n : Nat) (z : Zo) : Zo := ⟨(n : Int), z.nu, z.na, z.mn, z.mx⟩
set_option maxRecDepth 100000 in
set_option maxHeartbeats 8000000 in
theorem refof_any (a : Option Addr) (n c : Nat) (l : List Va) (w : World) (hs : SlK w 4 a n c (l.map Va.cells)) (hl : ∀ v ∈ l, v.wf ∧ v.s.size ≤ 1000) (hn : n ≤ 1000) : Calls Try.prog 23 #[.slice a n c] w fun e w' => e = .returned (ofZ l).agg ∧ Keeps No w w' := by
  have hlen : l.length = n := by simpa using hs.len
  have Hlen := Lib.hid hlen
  have Hl := Lib.hid hl
  clear hlen hl
  go_enter Try.func23, Try.ntmps23
  go_wp2_with fail
  go_loopg [11] n (fun q v9 wr => ∃ j : Nat, v9 = .int .i64 (j : Int) ∧ j ≤ n ∧ q = n - j ∧ wr.heap[w.heap.size + 1]? = some (.cells (zoCells (withR n (ofZ (l.take j)))) 39 (0, 0)) ∧ wr.heap[w.heap.size]? = some (.cells (zoCells Zo.zero) 39 (0, 0)) ∧ Keeps No w wr)
  case atStart =>
    refine ⟨0, rfl, Nat.zero_le _, rfl, ?_, ?_, ((Keeps.refl No w).alloc _).alloc _⟩
    · have := heap_alloc_new (w.alloc (.cells (zoCells Zo.zero) 39)) (.cells (zoCells (withR n Zo.zero)) 39)
      rw [show (w.alloc (.cells (zoCells Zo.zero) 39)).heap.size = w.heap.size + 1 from by simp] at this
      exact this
    · exact ((Keeps.refl No _).alloc _).blk (heap_alloc_new w (.cells (zoCells Zo.zero) 39)) (not_No _)
  case round =>
    obtain ⟨j, rfl, hj, hq, hbz, hbr, hkr⟩ := hrel
    have Hq := Lib.hid hq
    clear hq
    have hzr := hkr.size
    have hlz := (Array.getElem?_eq_some_iff.1 hbz).1
    by_cases hlt : j < n
    · have hjl : j < l.length := by rw [Hlen.out]; exact hlt
      have hfine := fine_take l j (by omega) (by omega)
      obtain ⟨Z, hZ⟩ : ∃ Z, Z = ofZ (l.take j) := ⟨_, rfl⟩
      obtain ⟨v, hv⟩ : ∃ v, v = l[j] := ⟨_, rfl⟩
      have hZw : Z.wf := by rw [hZ]; exact ofZ_wf _ (fun x hx => (Hl.out x (List.mem_of_mem_take hx)).1)
      have hvw : v.wf ∧ v.s.size ≤ 1000 := by rw [hv]; exact Hl.out _ (List.getElem_mem hjl)
      have hsn : ofZ (l.take (j + 1)) = joinZ Z (oneZ v) := by rw [List.take_succ_eq_append_getElem hjl, ofZ_snoc, ← hZ, ← hv]
      rw [← hZ] at hbz hfine
      rw [join_one hfine (by omega) v] at hsn
      have hnu0 := hfine.nu0
      have hnu1 := hfine.nu1
      have hna0 := hfine.na0
      have hna1 := hfine.na1
      have hms : Z.mn.s.size ≤ 1000 ∧ Z.mx.s.size ≤ 1000 := by
        rw [hZ]
        exact ofZ_small _ (fun x hx => (Hl.out x (List.mem_of_mem_take hx)).2)
      have hsr := hs.kept hkr
      have hix := hsr.ix (P := Try.prog) Try.underlying32 (by kernel_rfl) hlt .i64
      have hld := (hsr.load (P := Try.prog) Try.underlying37 rfl (by kernel_rfl) hlt).1
      have hb : (l.map Va.cells).getD j [] = v.cells := by rw [hv]; simp [hjl]
      rw [hb] at hld
      have Hsn := Lib.hid hsn
      clear hZ hv hsn hb hfine
      obtain ⟨k, nn, s, f⟩ := v
      obtain ⟨zr, nu, na, ⟨k1, n1, s1, f1⟩, ⟨k2, n2, s2, f2⟩⟩ := Z
      unfold Va.cells at hld
      simp only at hld hnu0 hnu1 hna0 hna1 Hsn hms hvw
      have hbz2 : wr.heap[w.heap.size + 1]? = some (.cells #[.int .i64 (n : Int), .int .i64 nu, .int .i64 na, .int .i64 k1, .int .i64 n1, .string s1, .int .u64 (f1 : Int), .int .i64 k2, .int .i64 n2, .string s2, .int .u64 (f2 : Int)] 39 (0, 0)) := hbz
      go_upto_region 5 with (refine wpList_loadV rfl 37 _ rfl _ rfl _ hld ?_)
      have hbv := heap_alloc_new wr (.cells #[.int .i64 k, .int .i64 nn, .string s, .int .u64 (f : Int)] 37)
      have hkW : Keeps No wr (wr.alloc (.cells #[.int .i64 k, .int .i64 nn, .string s, .int .u64 (f : Int)] 37)) := (Keeps.refl No wr).alloc _
      have hzW : (wr.alloc (.cells #[.int .i64 k, .int .i64 nn, .string s, .int .u64 (f : Int)] 37)).heap.size = wr.heap.size + 1 := by simp
      generalize (wr.alloc (.cells #[.int .i64 k, .int .i64 nn, .string s, .int .u64 (f : Int)] 37)) = W at hbv hkW hzW ⊢
      obtain ⟨a0, a1, a2, a3⟩ := row4 hbv
      have hbzW := hkW.blk hbz2 (not_No _)
      have hbrW := hkW.blk hbr (not_No _)
      have hkwW := hkr.transNo hkW
      have hright := fun wx => refright_any ⟨k, nn, s, f⟩ hvw.1 wx
      have hnan := fun wx => refnan_any f hvw.1.2.2 wx
      have hmn := fun wx => refvorder_any ⟨k, nn, s, f⟩ ⟨k1, n1, s1, f1⟩ hvw.1 hZw.2.2.2.1 (Nat.le_trans hvw.2 (by decide)) (Nat.le_trans hms.1 (by decide)) wx
      have hmx := fun wx => refvorder_any ⟨k, nn, s, f⟩ ⟨k2, n2, s2, f2⟩ hvw.1 hZw.2.2.2.2 (Nat.le_trans hvw.2 (by decide)) (Nat.le_trans hms.2 (by decide)) wx
      have hr1 := vorder_range ⟨k, nn, s, f⟩ ⟨k1, n1, s1, f1⟩
      have hr2 := vorder_range ⟨k, nn, s, f⟩ ⟨k2, n2, s2, f2⟩
      unfold Va.agg at hright hmn hmx
      simp only at hright hmn hmx
      generalize vorder ⟨k, nn, s, f⟩ ⟨k1, n1, s1, f1⟩ = c1 at hmn hr1 Hsn
      generalize vorder ⟨k, nn, s, f⟩ ⟨k2, n2, s2, f2⟩ = c2 at hmx hr2 Hsn
      clear hbz hld hix hsr hZw
      by_cases h1 : k = 0
      · have e1 : (k == 0) = true := by simp [h1]
        have hsn2 := Hsn.out
        rw [if_pos (.inl h1)] at hsn2
        have Hsn2 := Lib.hid hsn2
        obtain ⟨z0, z1, z2, z3, z4, z5, z6, z7, z8, z9, z10⟩ := row11 hbzW
        have fz := frozen_of_row W _ 1 _ _ hbzW
        have hst := heap_setCell_same W (w.heap.size + 1) 1 _ _ (.int .i64 (nu + 1)) hbzW
        have hks := Keeps.set W (w.heap.size + 1) 1 (.int .i64 (nu + 1))
        have Hst := Lib.hid hst
        clear hsn2 Hsn h1 hst
        go_wp2_with fail
        go_roundg (n - (j + 1))
        case rel => exact ⟨j + 1, by go_num, by omega, rfl, by rw [Hsn2.out]; exact Hst.out, hks.blk hbrW (show ¬ w.heap.size = w.heap.size + 1 by omega), hkwW.trans hks (fun i hi e => by omega)⟩
        case measure => have := Hq.out; omega
      have e1 : (k == 0) = false := by simp [h1]
      cases h2 : rightV ⟨k, nn, s, f⟩
      case false =>
        have hsn2 := Hsn.out
        rw [if_pos (.inr h2)] at hsn2
        have Hsn2 := Lib.hid hsn2
        rw [h2] at hright
        clear hsn2 Hsn h1 h2
        go_wp2_with fail
        refine (hright _).mono ?_
        rintro e w4 ⟨rfl, hk4⟩
        have hbz4 := hk4.blk hbzW (not_No _)
        obtain ⟨z0, z1, z2, z3, z4, z5, z6, z7, z8, z9, z10⟩ := row11 hbz4
        have fz := frozen_of_row w4 _ 1 _ _ hbz4
        have hst := heap_setCell_same w4 (w.heap.size + 1) 1 _ _ (.int .i64 (nu + 1)) hbz4
        have hks := Keeps.set w4 (w.heap.size + 1) 1 (.int .i64 (nu + 1))
        have Hst := Lib.hid hst
        clear hst
        go_wp2_with fail
        go_roundg (n - (j + 1))
        case rel => exact ⟨j + 1, by go_num, by omega, rfl, by rw [Hsn2.out]; exact Hst.out, hks.blk (hk4.blk hbrW (not_No _)) (show ¬ w.heap.size = w.heap.size + 1 by omega), (hkwW.transNo hk4).trans hks (fun i hi e => by omega)⟩
        case measure => have := Hq.out; omega
      rw [h2] at hright
      have hsn1 := Hsn.out
      rw [if_neg (by simp [h1, h2])] at hsn1
      have h1' := h1
      have H1 := Lib.hid h1
      clear Hsn h2 h1 h1'
      go_wp2_with fail
      refine (hright _).mono ?_
      rintro e w4 ⟨rfl, hk4⟩
      have hbz4 := hk4.blk hbzW (not_No _)
      have hbr4 := hk4.blk hbrW (not_No _)
      have hbv4 := hk4.blk hbv (not_No _)
      have hkw4 := hkwW.transNo hk4
      have hz4 := hk4.size
      obtain ⟨a0, a1, a2, a3⟩ := row4 hbv4
      obtain ⟨z0, z1, z2, z3, z4, z5, z6, z7, z8, z9, z10⟩ := row11 hbz4
      clear hright hbzW hbrW hbv hkwW
      by_cases h3 : nanV ⟨k, nn, s, f⟩ = true
      · rw [if_pos h3] at hsn1
        have h34 : k = 4 ∧ fnan f = true := by simpa [nanV] using h3
        have e4 : (k == 4) = true := by simp [h34.1]
        rw [h34.2] at hnan
        have Hsn2 := Lib.hid hsn1
        have fz := frozen_of_row w4 _ 2 _ _ hbz4
        have hst := heap_setCell_same w4 (w.heap.size + 1) 2 _ _ (.int .i64 (na + 1)) hbz4
        have hks := Keeps.set w4 (w.heap.size + 1) 2 (.int .i64 (na + 1))
        have Hst := Lib.hid hst
        clear hst hsn1 h3 h34
        go_wp2_with fail
        refine (hnan _).mono ?_
        rintro e w5 ⟨rfl, rfl⟩
        go_wp2_with fail
        go_roundg (n - (j + 1))
        case rel => exact ⟨j + 1, by go_num, by omega, rfl, by rw [Hsn2.out]; exact Hst.out, hks.blk hbr4 (show ¬ w.heap.size = w.heap.size + 1 by omega), hkw4.trans hks (fun i hi e => by omega)⟩
        case measure => have := Hq.out; omega
      rw [if_neg h3] at hsn1
      have Hsn2 := Lib.hid hsn1
      have H3 := Lib.hid h3
      clear hsn1 h3
      go_upto_region 7 with fail
      go_cut [34] (fun t wx => t = .bool false ∧ wx = w4)
      case first =>
        by_cases h4 : k = 4
        · have e4 : (k == 4) = true := by simp [h4]
          have hfn : fnan f = false := by
            have := H3.out
            unfold nanV at this
            simpa [h4] using this
          rw [hfn] at hnan
          clear h4 hfn
          go_wp2_with fail
          refine (hnan _).mono ?_
          rintro e w5 ⟨rfl, rfl⟩
          go_wp2_with fail
          go_meet
          exact ⟨rfl, rfl⟩
        · have e4 : (k == 4) = false := by simp [h4]
          clear h4
          go_wp2_with fail
          go_meet
          exact ⟨rfl, rfl⟩
      case rest =>
        obtain ⟨rfl, rfl⟩ := hcut
        go_upto_region 9 with fail
        go_cut [49] (fun t wx => t = .bool (decide (k1 = 0 ∨ c1 = -1)) ∧ Keeps No wc wx)
        case first =>
          by_cases h5 : k1 = 0
          · have e5 : (k1 == 0) = true := by simp [h5]
            have H5 := Lib.hid h5
            clear h5
            go_wp2_with fail
            go_meet
            exact ⟨by simp [H5.out], Keeps.refl _ _⟩
          · have e5 : (k1 == 0) = false := by simp [h5]
            have H5 := Lib.hid h5
            clear h5
            go_wp2_with fail
            refine (hmn _).mono ?_
            rintro e w5 ⟨rfl, hk5⟩
            rcases hr1 with rfl | rfl | rfl
            all_goals
              go_wp2_with fail
              go_meet
              exact ⟨by simp [H5.out], hk5⟩
        case rest =>
          rename_i wd
          obtain ⟨rfl, hk5⟩ := hcut
          have hbz5 := hk5.blk hbz4 (not_No _)
          have hbr5 := hk5.blk hbr4 (not_No _)
          have hbv5 := hk5.blk hbv4 (not_No _)
          have hkw5 := hkw4.transNo hk5
          have hz5 := hk5.size
          clear hbz4 hbr4 hbv4 hkw4 hk5 hmn z0 z1 z2 z3 z4 z5 z6 z7 z8 z9 z10 a0 a1 a2 a3
          obtain ⟨a0, a1, a2, a3⟩ := row4 hbv5
          by_cases hd1 : k1 = 0 ∨ c1 = -1
          · rw [decide_eq_true hd1]
            go_upto_region 11 with (refine wpList_storeMid rfl 37 (.tmp 51) (.tmp 50) rfl (w.heap.size + 1) 3 #[.int .i64 k, .int .i64 nn, .string s, .int .u64 (f : Int)] rfl rfl 39 #[.int .i64 (n : Int), .int .i64 nu, .int .i64 na, .int .i64 k1, .int .i64 n1, .string s1, .int .u64 (f1 : Int), .int .i64 k2, .int .i64 n2, .string s2, .int .u64 (f2 : Int)] #[.int .i64 (n : Int), .int .i64 nu, .int .i64 na, .int .i64 k, .int .i64 nn, .string s, .int .u64 (f : Int), .int .i64 k2, .int .i64 n2, .string s2, .int .u64 (f2 : Int)] hbz5 (by kernel_rfl) (by simp) (by kernel_rfl) rfl ?_)
            intro w6 hbz6 hz6 hk6
            have hbr6 := hk6.blk hbr5 (show ¬ w.heap.size = w.heap.size + 1 by omega)
            have hbv6 := hk6.blk hbv5 (show ¬ wr.heap.size = w.heap.size + 1 by omega)
            have hkw6 := hkw5.trans hk6 (fun i hi e => by omega)
            clear hbz5 hbr5 hbv5 hkw5 hk6 a0 a1 a2 a3
            have hsn3 := Hsn2.out
            rw [if_pos hd1] at hsn3
            obtain ⟨z0, z1, z2, z3, z4, z5, z6, z7, z8, z9, z10⟩ := row11 hbz6
            obtain ⟨a0, a1, a2, a3⟩ := row4 hbv6
            have Hsn3 := Lib.hid hsn3
            clear hsn3 Hsn2 hd1
            go_upto_region 11 with fail
            go_cut [62] (fun t wx => t = .bool (decide (k2 = 0 ∨ c2 = 1)) ∧ Keeps No w6 wx)
            case first =>
              by_cases h6 : k2 = 0
              · have e6 : (k2 == 0) = true := by simp [h6]
                have H6 := Lib.hid h6
                clear h6
                go_wp2_with fail
                go_meet
                exact ⟨by simp [H6.out], Keeps.refl _ _⟩
              · have e6 : (k2 == 0) = false := by simp [h6]
                have H6 := Lib.hid h6
                clear h6
                go_wp2_with fail
                refine (hmx _).mono ?_
                rintro e w7 ⟨rfl, hk7⟩
                rcases hr2 with rfl | rfl | rfl
                all_goals
                  go_wp2_with fail
                  go_meet
                  exact ⟨by simp [H6.out], hk7⟩
            case rest =>
              rename_i we
              obtain ⟨rfl, hk7⟩ := hcut
              have hbz7 := hk7.blk hbz6 (not_No _)
              have hbr7 := hk7.blk hbr6 (not_No _)
              have hbv7 := hk7.blk hbv6 (not_No _)
              have hkw7 := hkw6.transNo hk7
              clear hbz6 hbr6 hbv6 hkw6 hk7 hmx z0 z1 z2 z3 z4 z5 z6 z7 z8 z9 z10 a0 a1 a2 a3
              obtain ⟨a0, a1, a2, a3⟩ := row4 hbv7
              by_cases hd2 : k2 = 0 ∨ c2 = 1
              · rw [decide_eq_true hd2]
                have hsn4 := Hsn3.out
                rw [if_pos hd2] at hsn4
                have Hsn4 := Lib.hid hsn4
                clear hsn4 Hsn3 hd2
                go_wp2_with (refine wpList_storeMid rfl 37 (.tmp 64) (.tmp 63) rfl (w.heap.size + 1) 7 #[.int .i64 k, .int .i64 nn, .string s, .int .u64 (f : Int)] rfl rfl 39 #[.int .i64 (n : Int), .int .i64 nu, .int .i64 na, .int .i64 k, .int .i64 nn, .string s, .int .u64 (f : Int), .int .i64 k2, .int .i64 n2, .string s2, .int .u64 (f2 : Int)] #[.int .i64 (n : Int), .int .i64 nu, .int .i64 na, .int .i64 k, .int .i64 nn, .string s, .int .u64 (f : Int), .int .i64 k, .int .i64 nn, .string s, .int .u64 (f : Int)] hbz7 (by kernel_rfl) (by simp) (by kernel_rfl) rfl ?_)
                intro w8 hb8 hz8 hk8
                go_wp2_with fail
                go_roundg (n - (j + 1))
                case rel => exact ⟨j + 1, by go_num, by omega, rfl, by rw [Hsn4.out]; exact hb8, hk8.blk hbr7 (show ¬ w.heap.size = w.heap.size + 1 by omega), hkw7.trans hk8 (fun i hi e => by omega)⟩
                case measure => have := Hq.out; omega
              · rw [decide_eq_false hd2]
                have hsn4 := Hsn3.out
                rw [if_neg hd2] at hsn4
                have Hsn4 := Lib.hid hsn4
                clear hsn4 Hsn3 hd2
                go_wp2_with fail
                go_roundg (n - (j + 1))
                case rel => exact ⟨j + 1, by go_num, by omega, rfl, by rw [Hsn4.out]; exact hbz7, hbr7, hkw7⟩
                case measure => have := Hq.out; omega
          · rw [decide_eq_false hd1]
            have hbz6 := hbz5
            have hbr6 := hbr5
            have hbv6 := hbv5
            have hkw6 := hkw5
            clear hbz5 hbr5 hbv5 hkw5 a0 a1 a2 a3
            have hsn3 := Hsn2.out
            rw [if_neg hd1] at hsn3
            obtain ⟨z0, z1, z2, z3, z4, z5, z6, z7, z8, z9, z10⟩ := row11 hbz6
            obtain ⟨a0, a1, a2, a3⟩ := row4 hbv6
            have Hsn3 := Lib.hid hsn3
            clear hsn3 Hsn2 hd1
            go_upto_region 11 with fail
            go_cut [62] (fun t wx => t = .bool (decide (k2 = 0 ∨ c2 = 1)) ∧ Keeps No wc wx)
            case first =>
              by_cases h6 : k2 = 0
              · have e6 : (k2 == 0) = true := by simp [h6]
                have H6 := Lib.hid h6
                clear h6
                go_wp2_with fail
                go_meet
                exact ⟨by simp [H6.out], Keeps.refl _ _⟩
              · have e6 : (k2 == 0) = false := by simp [h6]
                have H6 := Lib.hid h6
                clear h6
                go_wp2_with fail
                refine (hmx _).mono ?_
                rintro e w7 ⟨rfl, hk7⟩
                rcases hr2 with rfl | rfl | rfl
                all_goals
                  go_wp2_with fail
                  go_meet
                  exact ⟨by simp [H6.out], hk7⟩
            case rest =>
              rename_i we
              obtain ⟨rfl, hk7⟩ := hcut
              have hbz7 := hk7.blk hbz6 (not_No _)
              have hbr7 := hk7.blk hbr6 (not_No _)
              have hbv7 := hk7.blk hbv6 (not_No _)
              have hkw7 := hkw6.transNo hk7
              clear hbz6 hbr6 hbv6 hkw6 hk7 hmx z0 z1 z2 z3 z4 z5 z6 z7 z8 z9 z10 a0 a1 a2 a3
              obtain ⟨a0, a1, a2, a3⟩ := row4 hbv7
              by_cases hd2 : k2 = 0 ∨ c2 = 1
              · rw [decide_eq_true hd2]
                have hsn4 := Hsn3.out
                rw [if_pos hd2] at hsn4
                have Hsn4 := Lib.hid hsn4
                clear hsn4 Hsn3 hd2
                go_wp2_with (refine wpList_storeMid rfl 37 (.tmp 64) (.tmp 63) rfl (w.heap.size + 1) 7 #[.int .i64 k, .int .i64 nn, .string s, .int .u64 (f : Int)] rfl rfl 39 #[.int .i64 (n : Int), .int .i64 nu, .int .i64 na, .int .i64 k1, .int .i64 n1, .string s1, .int .u64 (f1 : Int), .int .i64 k2, .int .i64 n2, .string s2, .int .u64 (f2 : Int)] #[.int .i64 (n : Int), .int .i64 nu, .int .i64 na, .int .i64 k1, .int .i64 n1, .string s1, .int .u64 (f1 : Int), .int .i64 k, .int .i64 nn, .string s, .int .u64 (f : Int)] hbz7 (by kernel_rfl) (by simp) (by kernel_rfl) rfl ?_)
                intro w8 hb8 hz8 hk8
                go_wp2_with fail
                go_roundg (n - (j + 1))
                case rel => exact ⟨j + 1, by go_num, by omega, rfl, by rw [Hsn4.out]; exact hb8, hk8.blk hbr7 (show ¬ w.heap.size = w.heap.size + 1 by omega), hkw7.trans hk8 (fun i hi e => by omega)⟩
                case measure => have := Hq.out; omega
              · rw [decide_eq_false hd2]
                have hsn4 := Hsn3.out
                rw [if_neg hd2] at hsn4
                have Hsn4 := Lib.hid hsn4
                clear hsn4 Hsn3 hd2
                go_wp2_with fail
                go_roundg (n - (j + 1))
                case rel => exact ⟨j + 1, by go_num, by omega, rfl, by rw [Hsn4.out]; exact hbz7, hbr7, hkw7⟩
                case measure => have := Hq.out; omega
    · obtain rfl : j = n := by omega
      have hfo := (fine_of l (by rw [Hlen.out]; omega)).r
      rw [Hlen.out] at hfo
      rw [List.take_of_length_le (by rw [Hlen.out]; exact Nat.le_refl _)] at hbz
      obtain ⟨Z, hZ⟩ : ∃ Z, Z = ofZ l := ⟨_, rfl⟩
      have hwz : withR j (ofZ l) = Z := by
        rw [hZ]
        unfold withR
        rw [← hfo]
      rw [hwz] at hbz
      have HZ := Lib.hid hZ
      clear hZ hwz hfo
      obtain ⟨r1, r2, r3, ⟨r4, r5, r6, r7⟩, ⟨r8, r9, r10, r11⟩⟩ := Z
      have hbz2 : wr.heap[w.heap.size + 1]? = some (.cells #[.int .i64 r1, .int .i64 r2, .int .i64 r3, .int .i64 r4, .int .i64 r5, .string r6, .int .u64 (r7 : Int), .int .i64 r8, .int .i64 r9, .string r10, .int .u64 (r11 : Int)] 39 (0, 0)) := hbz
      have hbr2 : wr.heap[w.heap.size]? = some (.cells #[.int .i64 0, .int .i64 0, .int .i64 0, .int .i64 0, .int .i64 0, .string ⟨#[]⟩, .int .u64 0, .int .i64 0, .int .i64 0, .string ⟨#[]⟩, .int .u64 0] 39 (0, 0)) := hbr
      clear hbz hbr
      obtain ⟨z0, z1, z2, z3, z4, z5, z6, z7, z8, z9, z10⟩ := row11 hbz2
      go_wp2_with (refine wpList_storeRow rfl 39 (.tmp 2) (.tmp 66) rfl w.heap.size #[.int .i64 r1, .int .i64 r2, .int .i64 r3, .int .i64 r4, .int .i64 r5, .string r6, .int .u64 (r7 : Int), .int .i64 r8, .int .i64 r9, .string r10, .int .u64 (r11 : Int)] rfl rfl 39 _ hbr2 (by kernel_rfl) rfl (by kernel_rfl) ?_)
      intro w7 hb7 hz7 hk7
      go_wp2_with fail
      (try simp only [Exit.inBlock, Exit.then]); refine bodyPost_ret (results_cell_row rfl _ _ _ _ _ _ _ rfl hb7 Try.underlying39 rfl (by kernel_rfl)) rfl ?_
      exact ⟨by rw [← HZ.out]; rfl, hkr.trans hk7 (fun i hi e => by omega)⟩
end Go.Proofs.Ytmhmpnbcjcmnnaa
