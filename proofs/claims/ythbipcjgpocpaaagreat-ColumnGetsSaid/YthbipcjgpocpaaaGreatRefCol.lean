import Derived.Test.YthbipcjgpocpaaaGreatColG
import Derived.Test.YthbipcjgpocpaaaGreatRefVal
/- Layer 14, the document's answer: the walks of layer 3's Put, of Right, Full, Rest, Same. -/
namespace Go.Proofs.YthbipcjgpocpaaaGreat
open Go.RowKit
set_option linter.unusedSimpArgs false
set_option linter.unusedVariables false
set_option maxRecDepth 100000

/-- 'append(out, s...)', s a string, in a region that draws. -/
theorem wp_app_str {P : Program} {w : World} {o : Oper} {ac : Act} {K : Act → World → Prop} {Q : Exit → Act → World → Prop} (s x : Operand) (T U : TypeId)
    (ho : o.op = .call { callee := .builtin .append, args := #[s, x], argTypes := #[T, U] })
    (base : Nat) (e : TypeId) (ht : P.underlying T = some (.slice e)) (hu : P.underlying U = some .string) (hinf : (P.info? e).map (fun i => (i.zero, i.size, i.bytes)) = some (some (.int .u8 0), 1, 1))
    (v : Value) (n : Nat) (xs : List Value) (hs : ac.eval s = v) (hown : w.ownsRow base e 1 v n xs) (str : ByteArray) (hx : ac.eval x = .string str)
    (hbytes : n + str.size ≤ 140737488355328) (hbase : base ≤ w.heap.size)
    (h : ∀ v' w', w'.ownsRow base e 1 v' (n + str.size) (xs ++ str.data.toList.map byteV) → w.grownBy w' v.ownBlock → K (ac.put o.dst v') w') : Oper.wp P o ac w K Q := by
  obtain ⟨i0, hi, hz0, hz1, hz2⟩ := info_parts hinf
  obtain ⟨v', w', hrun, h1, h2, _⟩ := Lib.run_append_own_string (P := P) w base T U o.type e i0 ht hu hi hz0 hz1 hz2 v n xs hown str (by unfold maxLen; omega) hbytes hbase
  unfold Oper.wp
  simp [execOp, ho, resolve, invoke, builtin, hs, hx, hrun, Result.andThen]
  exact h _ _ h1 h2

/-- 'append(out, ys...)', elements of one cell, in a region that draws. -/
theorem wp_app_own {P : Program} {w : World} {o : Oper} {ac : Act} {K : Act → World → Prop} {Q : Exit → Act → World → Prop} (s x : Operand) (T : TypeId)
    (ho : o.op = .call { callee := .builtin .append, args := #[s, x], argTypes := #[T, T] })
    (base : Nat) (e : TypeId) (z : Value) (bytes : Nat) (ht : P.underlying T = some (.slice e)) (hinf : (P.info? e).map (fun i => (i.zero, i.size, i.bytes)) = some (some z, 1, bytes)) (hzs : z.cells.size = 1) (hby : 0 < bytes)
    (v : Value) (n : Nat) (xs : List Value) (hs : ac.eval s = v) (hown : w.ownsRow base e 1 v n xs)
    (xa : Option Addr) (m c : Nat) (ys : List Value) (hx : ac.eval x = .slice xa m c) (hsl : Sl w xa m c ys) (h1 : ∀ u ∈ ys, u.oneCell' = true)
    (hbytes : (n + m) * bytes ≤ 140737488355328) (hbase : base ≤ w.heap.size)
    (h : ∀ v' w', w'.ownsRow base e 1 v' (n + m) (xs ++ ys) → w.grownBy w' v.ownBlock → K (ac.put o.dst v') w') : Oper.wp P o ac w K Q := by
  have hfl : ∀ l : List Value, (l.map fun y => [y]).flatten = l := fun l => by induction l with | nil => rfl | cons a t ih => rw [List.map_cons, List.flatten_cons, ih]; rfl
  have hk : SlK w 1 xa m c (ys.map fun y => [y]) := by
    refine ⟨by simpa using hsl.len, hsl.le, hsl.max, hsl.nil, fun u hu => by obtain ⟨_, _, rfl⟩ := List.mem_map.1 hu; rfl, fun i hi j hj => ?_⟩
    obtain rfl : j = 0 := by omega
    rw [Nat.mul_one, Nat.add_zero, hsl.cell i hi, List.getElem?_map]
    cases ys[i]? <;> rfl
  refine wp_app_ownK s x T ho base e z 1 bytes ht hinf hzs (by decide) hby v n xs hs hown xa m c (ys.map fun y => [y]) hx hk (by rw [hfl]; exact h1) hbytes hbase fun v' w' h2 h3 _ => ?_
  rw [hfl] at h2
  exact h v' w' h2 h3
theorem right_of {v : Va} (h : rightV v = true) : rightOf v = v := by unfold rightOf; rw [if_pos h]

set_option maxHeartbeats 8000000 in
theorem r3put_any (v : Va) (hr : rightV v = true) (hk : 1 ≤ v.k ∧ v.k ≤ 4) (hw : v.wf) (w : World) :
    Calls Tryz.prog 67 #[v.agg] w fun e w' => ∃ a n c, e = .returned (.slice a n c) ∧ Sl w' a n c ((UInt8.ofNat v.k.toNat :: plainV v).map byteV) ∧ Keeps No w w' := by
  have hcall := fun wx => refrightv_any v hw wx
  rw [right_of hr] at hcall
  have hpl := plainV_len hr hw
  have Hr := Lib.hid hr
  have hnw := hw.2.1
  have hfw := hw.2.2
  obtain ⟨k, n, s, f⟩ := v
  unfold Va.agg at hcall ⊢
  simp only at hcall hk hnw hfw ⊢
  clear hr hw
  go_enter Tryz.func67, Tryz.ntmps67
  go_wp2_with fail
  refine (hcall _).mono ?_
  rintro e w1 ⟨rfl, hk1⟩
  have hk01 : Keeps No w w1 := ((Keeps.refl No w).alloc _).transNo hk1
  clear hcall hk1
  have hkA : Keeps No w1 (w1.alloc (.cells #[.int .i64 k, .int .i64 n, .string s, .int .u64 (f : Int)] 32)) := (Keeps.refl No w1).alloc _
  have hbA := heap_alloc_new w1 (.cells #[.int .i64 k, .int .i64 n, .string s, .int .u64 (f : Int)] 32)
  have hzA : (w1.alloc (.cells #[.int .i64 k, .int .i64 n, .string s, .int .u64 (f : Int)] 32)).heap.size = w1.heap.size + 1 := by simp
  have hown1 : ((w1.alloc (.cells #[.int .i64 k, .int .i64 n, .string s, .int .u64 (f : Int)] 32)).alloc (.cells #[.int .u8 k] 5)).ownsRow w1.heap.size 5 1 (.slice (some ⟨w1.heap.size + 1, 0, none⟩) 1 1) 1 [.int .u8 k] := by
    have := owns_one (w1.alloc (.cells #[.int .i64 k, .int .i64 n, .string s, .int .u64 (f : Int)] 32)) w1.heap.size 5 (.int .u8 k) (by simp)
    simpa using this
  have hkT : Keeps No w1 ((w1.alloc (.cells #[.int .i64 k, .int .i64 n, .string s, .int .u64 (f : Int)] 32)).alloc (.cells #[.int .u8 k] 5)) := hkA.alloc _
  have hkm : k % 256 = k := by omega
  have hb2 := ((Keeps.refl No _).alloc (.cells #[.int .u8 k] 5)).blk hbA (not_No _)
  rcases (show k = 1 ∨ k = 2 ∨ k = 3 ∨ k = 4 by omega) with rfl | rfl | rfl | rfl
  · have hv : plainV ⟨1, n, s, f⟩ = nat7 (fold n) := rfl
    rw [hv] at hpl
    have Hv := Lib.hid hv
    clear hv
    go_wp2_with fail
    refine (folded_any n _ hnw).mono ?_
    rintro e w2 ⟨rfl, rfl⟩
    go_wp2_with fail
    refine (refNat_any (fold n) _ (fold_lt (wf_i64_iff hnw))).mono ?_
    rintro e w3 ⟨v3, rfl, hown3, hk3⟩
    obtain ⟨a3, c3, rfl, hs3, _⟩ := Sl.ofOwn hown3
    have hown2 := hk3.own hown1 (fun _ _ => not_No _)
    have hz := (hkT.transNo hk3).size
    go_wp2_with (at_builtin; refine app_own rfl _ _ 22 rfl w1.heap.size 5 (.int .u8 0) 1 Tryz.underlying22 byte_infoX rfl (by decide) _ 1 [.int .u8 1] rfl hown2 a3 (nat7 (fold n)).length c3 ((nat7 (fold n)).map byteV) rfl hs3 ?h1 ?hb ?hB ?_)
    case h1 => exact byteV_one _
    case hb => omega
    case hB => exact hz
    intro v4 w4 hown4 hg4
    obtain ⟨a4, c4, rfl, hs4, _⟩ := Sl.ofOwn hown4
    go_wp2_with fail
    go_ret
    exact ⟨_, _, _, rfl, by rw [Hv.out]; exact hs4, hk01.transNo ((hkT.transNo hk3).grown hg4 (fun i hi hlt2 => by have := (hown2.lt i hi).1; omega))⟩
  · have hv : plainV ⟨2, n, s, f⟩ = [UInt8.ofNat n.toNat] := rfl
    have hn2 : n = ((UInt8.ofNat n.toNat).toNat : Int) := by
      rcases (right_two Hr.out rfl).2 with h | h <;> (simp only at h; subst h; rfl)
    have h01 : 0 ≤ n ∧ n ≤ 1 := by rcases (right_two Hr.out rfl).2 with h | h <;> (simp only at h; subst h; decide)
    have hmod : n % 256 = n := by omega
    rw [hv] at hpl
    have Hv := Lib.hid hv
    have Hn2 := Lib.hid hn2
    clear hv hn2 h01
    have hkU : Keeps No w1 (((w1.alloc (.cells #[.int .i64 2, .int .i64 n, .string s, .int .u64 (f : Int)] 32)).alloc (.cells #[.int .u8 2] 5)).alloc (.cells #[.int .u8 n] 5)) := hkT.alloc _
    have hown2 : (((w1.alloc (.cells #[.int .i64 2, .int .i64 n, .string s, .int .u64 (f : Int)] 32)).alloc (.cells #[.int .u8 2] 5)).alloc (.cells #[.int .u8 n] 5)).ownsRow w1.heap.size 5 1 (.slice (some ⟨w1.heap.size + 1, 0, none⟩) 1 1) 1 [.int .u8 2] := ((Keeps.refl No _).alloc _).own hown1 (fun _ _ => not_No _)
    have hone := Sl.one ((w1.alloc (.cells #[.int .i64 2, .int .i64 n, .string s, .int .u64 (f : Int)] 32)).alloc (.cells #[.int .u8 2] 5)) (.int .u8 n) 5
    rw [show ((w1.alloc (.cells #[.int .i64 2, .int .i64 n, .string s, .int .u64 (f : Int)] 32)).alloc (.cells #[.int .u8 2] 5)).heap.size = w1.heap.size + 2 by simp] at hone
    go_wp2_with (at_builtin; go_loud (refine app_own rfl _ _ 22 rfl w1.heap.size 5 (.int .u8 0) 1 Tryz.underlying22 byte_infoX rfl (by decide) _ 1 [.int .u8 2] rfl hown2 _ 1 1 [.int .u8 n] rfl hone ?h1 ?hb ?hB ?_))
    case h1 => first | rfl | (intro u hu; simp at hu; subst hu; rfl)
    case hb => omega
    case hB => exact hkU.size
    intro v4 w4 hown4 hg4
    obtain ⟨a4, c4, rfl, hs4, _⟩ := Sl.ofOwn hown4
    go_wp2_with fail
    go_ret
    refine ⟨_, _, _, rfl, ?_, hk01.transNo (hkU.grown hg4 (fun i hi hlt2 => by have := (hown2.lt i hi).1; omega))⟩
    rw [Hv.out]
    have e1 : [UInt8.ofNat (2 : Int).toNat, UInt8.ofNat n.toNat].map byteV = [.int .u8 2] ++ [.int .u8 n] := by
      simp only [List.map_cons, List.map_nil, byteV]; rw [← Hn2.out]; rfl
    rw [e1]
    exact hs4
  · have hv : plainV ⟨3, n, s, f⟩ = nat7 s.size ++ s.data.toList := rfl
    have hsz := right_size Hr.out
    simp only at hsz
    rw [hv] at hpl
    have Hv := Lib.hid hv
    clear hv
    have h7 := nat7_len64 s.size (by omega)
    go_wp2_with fail
    generalize hW : (w1.alloc (.cells #[.int .i64 3, .int .i64 n, .string s, .int .u64 (f : Int)] 32)).alloc (.cells #[.int .u8 3] 5) = W at hown1 hkT hb2 ⊢
    clear hW
    clear hbA hkA hzA
    have hown3a := hown1
    refine wp_region_held_drew (S := fun wx => wx.heap[w1.heap.size]? = some (.cells #[.int .i64 3, .int .i64 n, .string s, .int .u64 (f : Int)] 32 (0, 0)) ∧ wx.cell? ⟨w1.heap.size, 2, none⟩ = some (.string s) ∧ Keeps No w1 wx) (by kernel_rfl) (⟨hb2, (row4 hb2).2.2.1, hkT.drew⟩) (fun hS => ?_)
    refine tk (i := 0) (oi := ⟨some 32, _, _, _, _, _⟩) (v := ?_) rfl (by kernel_rfl) (fun _ _ _ h => h) (by assumption) (by rfl) (fun w hSw => ?_) ?_; rotate_left; (focus (first | (go_simp; done) | (go_simp; with_reducible rfl))); simp only [Act.put, List.setIfInBounds_toArray, List.set_cons_zero, List.set_cons_succ]
    refine tk (i := 1) (oi := ⟨some 33, _, _, _, _, _⟩) (v := ?_) rfl (by kernel_rfl) (fun _ _ _ h => h) (by assumption) (by rfl) (fun w hSw => ?_) ?_; rotate_left; (focus (first | (go_simp; done) | (go_simp; with_reducible rfl))); simp only [Act.put, List.setIfInBounds_toArray, List.set_cons_zero, List.set_cons_succ]
    refine tk (i := 2) (oi := ⟨some 34, _, _, _, _, _⟩) (v := ?_) rfl (by kernel_rfl) (fun _ _ _ h => h) (by assumption) (by rfl) (fun w hSw => ?_) ?_; rotate_left; (focus (first | (go_simp; done) | (go_simp; with_reducible rfl))); simp only [Act.put, List.setIfInBounds_toArray, List.set_cons_zero, List.set_cons_succ]
    refine tk (i := 3) (oi := ⟨some 35, _, _, _, _, _⟩) (v := ?_) rfl (by kernel_rfl) (fun _ _ _ h => h) (by assumption) (by rfl) (fun w hSw => ?_) ?_; rotate_left; (focus (first | (go_simp; done) | (go_simp; with_reducible rfl))); simp only [Act.put, List.setIfInBounds_toArray, List.set_cons_zero, List.set_cons_succ]
    refine tk (i := 4) (oi := ⟨some 36, _, _, _, _, _⟩) (v := ?_) rfl (by kernel_rfl) (fun _ _ _ h => h) (by assumption) (by rfl) (fun w hSw => ?_) ?_; rotate_left; (focus (first | (go_simp; done) | (go_simp; with_reducible rfl))); simp only [Act.put, List.setIfInBounds_toArray, List.set_cons_zero, List.set_cons_succ]
    refine tk (i := 7) (oi := ⟨some 39, _, _, _, _, _⟩) (v := ?_) rfl (by kernel_rfl) (fun _ _ _ h => h) (by assumption) (by rfl) (fun w hSw => ?_) ?_; rotate_left; (focus (first | (go_simp; done) | (go_simp; with_reducible rfl))); simp only [Act.put, List.setIfInBounds_toArray, List.set_cons_zero, List.set_cons_succ]
    refine tk (i := 8) (oi := ⟨some 40, _, _, _, _, _⟩) (v := ?_) rfl (by kernel_rfl) (fun _ _ _ h => h) (by assumption) (by rfl) (fun w hSw => ?_) ?_; rotate_left; (focus (first | (go_simp; done) | (go_simp; with_reducible rfl))); simp only [Act.put, List.setIfInBounds_toArray, List.set_cons_zero, List.set_cons_succ]
    refine alone (i := 5) (oi := ⟨some 37, _, _, _, _, _⟩) rfl (by kernel_rfl) (by rfl) (fun K hK => ?_); go_simp
    have hwr : IntKind.u64.wrap (s.size : Int) = ((s.size : Nat) : Int) := by rw [IntKind.wrap_u64]; omega
    try rw [hwr]
    refine (refNat_any s.size _ (by omega)).mono ?_
    rintro e w3 ⟨v3, rfl, hown3, hk3⟩
    obtain ⟨a3, c3, rfl, hs3, _⟩ := Sl.ofOwn hown3
    have hk13 : Keeps No w1 w3 := hS.2.2.transNo hk3
    have hownW : w3.ownsRow w1.heap.size 5 1 (.slice (some ⟨w1.heap.size + 1, 0, none⟩) 1 1) 1 [.int .u8 3] := ((Keeps.refl No _).drew.transNo hk3).own hown3a (fun _ _ => not_No _)
    have hb3 := hk3.blk hS.1 (not_No _)
    refine hK.out (fun wx => wx.heap[w1.heap.size]? = some (.cells #[.int .i64 3, .int .i64 n, .string s, .int .u64 (f : Int)] 32 (0, 0)) ∧ wx.cell? ⟨w1.heap.size, 2, none⟩ = some (.string s) ∧ Keeps No w1 wx) _ _ (fun _ h => h) (⟨hb3, (row4 hb3).2.2.1, hk13⟩) ?_
    clear hK K hS
    intro hS
    refine alone (i := 6) (oi := ⟨some 38, _, _, _, _, _⟩) rfl (by kernel_rfl) (by rfl) (fun K hK => ?_)
    refine wp_app_own _ _ 22 rfl w1.heap.size 5 (.int .u8 0) 1 Tryz.underlying22 byte_infoX rfl (by decide) _ 1 [.int .u8 3] rfl hownW a3 (nat7 s.size).length c3 ((nat7 s.size).map byteV) rfl hs3 ?h1 ?hb ?hB ?_
    case h1 => exact byteV_one _
    case hb => omega
    case hB => exact hk13.size
    intro v4 w4 hown4 hg4
    have hne4 := own_ne hownW hb3 (by decide)
    have hb4 : w4.heap[w1.heap.size]? = some (.cells #[.int .i64 3, .int .i64 n, .string s, .int .u64 (f : Int)] 32 (0, 0)) := (hg4.block w1.heap.size ((Array.getElem?_eq_some_iff.1 hb3).1) (fun e => hne4 (by have e2 : some w1.heap.size = some (w1.heap.size + 1) := e; injection e2 with e2; omega))).trans hb3
    have hk14 : Keeps No w1 w4 := hk13.grown hg4 (fun i hi hlt2 => by have := (hownW.lt i hi).1; omega)
    refine hK.out (fun wx => wx.heap[w1.heap.size]? = some (.cells #[.int .i64 3, .int .i64 n, .string s, .int .u64 (f : Int)] 32 (0, 0)) ∧ wx.cell? ⟨w1.heap.size, 2, none⟩ = some (.string s) ∧ Keeps No w1 wx) _ _ (fun _ h => h) (⟨hb4, (row4 hb4).2.2.1, hk14⟩) ?_
    clear hK K hS
    intro hS
    refine alone (i := 9) (oi := ⟨some 41, _, _, _, _, _⟩) rfl (by kernel_rfl) (by rfl) (fun K hK => ?_)
    refine wp_app_str _ _ 22 9 rfl w1.heap.size 5 Tryz.underlying22 Tryz.underlying9 byte_infoX _ (1 + (nat7 s.size).length) _ rfl hown4 s rfl ?hb ?hB ?_
    case hb => omega
    case hB => exact hk14.size
    intro v5 w5 hown5 hg5
    obtain ⟨a5, c5, rfl, hs5, _⟩ := Sl.ofOwn hown5
    have hk15 : Keeps No w1 w5 := hk14.grown hg5 (fun i hi hlt2 => by have := (hown4.lt i hi).1; omega)
    have hb5 : w5.heap[w1.heap.size]? = some (.cells #[.int .i64 3, .int .i64 n, .string s, .int .u64 (f : Int)] 32 (0, 0)) := by
      refine (hg5.block w1.heap.size ((Array.getElem?_eq_some_iff.1 hb4).1) (fun e => ?_)).trans hb4
      obtain ⟨g, cg, rfl⟩ := own_some hown4 (by omega)
      have := own_ne hown4 hb4 (by decide)
      have e2 : some w1.heap.size = some g := e
      injection e2 with e2
      exact this e2.symm
    refine hK.out (fun wx => wx.heap[w1.heap.size]? = some (.cells #[.int .i64 3, .int .i64 n, .string s, .int .u64 (f : Int)] 32 (0, 0)) ∧ wx.cell? ⟨w1.heap.size, 2, none⟩ = some (.string s) ∧ Keeps No w1 wx) _ _ (fun _ h => h) (⟨hb5, (row4 hb5).2.2.1, hk15⟩) ?_
    clear hK K hS
    intro hS
    refine tk (i := 10) (oi := ⟨some 2, _, _, _, _, _⟩) (v := ?_) rfl (by kernel_rfl) (fun _ _ _ h => h) (by assumption) (by rfl) (fun w hSw => ?_) ?_; rotate_left; (focus (first | (go_simp; done) | (go_simp; with_reducible rfl))); simp only [Act.put, List.setIfInBounds_toArray, List.set_cons_zero, List.set_cons_succ]
    refine wpAnyH_done (by kernel_rfl) ?_ _
    go_wp2_with fail
    go_ret
    refine ⟨_, _, _, rfl, ?_, hk01.transNo hk15⟩
    have e1 : (UInt8.ofNat (3 : Int).toNat :: (nat7 s.size ++ s.data.toList)).map byteV = [.int .u8 3] ++ (nat7 s.size).map byteV ++ s.data.toList.map byteV := by
      simp only [List.map_cons, List.map_append, byteV]; rfl
    rw [← e1] at hs5
    rw [Hv.out]
    exact hs5
  · have hv : plainV ⟨4, n, s, f⟩ = le8 f := rfl
    have Hv := Lib.hid hv
    clear hv hpl
    go_wp2_with fail
    generalize hW : (w1.alloc (.cells #[.int .i64 4, .int .i64 n, .string s, .int .u64 (f : Int)] 32)).alloc (.cells #[.int .u8 4] 5) = W at hown1 hkT hb2 ⊢
    clear hW hbA hkA hzA
    go_loopg [5, 4] 8 (fun q i bv wr => ∃ (t g c' : Nat) (d : List UInt8), t ≤ 8 ∧ q = 8 - t ∧ i = .int .i64 (t : Int) ∧ Hid (d = UInt8.ofNat 4 :: (le8 f).take t) ∧ d.length = 1 + t ∧ bv = .slice (some ⟨g, 0, none⟩) d.length c' ∧ wr.ownsRow w1.heap.size 5 1 (.slice (some ⟨g, 0, none⟩) d.length c') d.length (d.map byteV) ∧ Keeps No w1 wr ∧ wr.heap[w1.heap.size]? = some (.cells #[.int .i64 4, .int .i64 n, .string s, .int .u64 (f : Int)] 32 (0, 0)))
    case atStart => exact ⟨0, w1.heap.size + 1, 1, [UInt8.ofNat 4], by omega, rfl, rfl, Lib.hid rfl, rfl, rfl, hown1, hkT, hb2⟩
    case round =>
      obtain ⟨t, g3, c3, d, ht, hq2, rfl, Hd, hdl, rfl, hown3, hkx, hbx⟩ := hrel
      have Hq2 := Lib.hid hq2
      clear hq2
      obtain ⟨x0, x1, x2, x3⟩ := row4 hbx
      by_cases ht8 : t < 8
      · have hkB : Keeps No wr (wr.alloc (.cells #[.int .u8 ((f : Int) / 2 ^ (8 * t) % 256)] 5)) := (Keeps.refl No wr).alloc _
        have hownB := hkB.own hown3 (fun _ _ => not_No _)
        have hgne := own_ne hown3 hbx (by decide)
        have hbB := hkB.blk hbx (not_No _)
        have Hgne := Lib.hid hgne
        have hlt3 := hown3.lt g3 rfl
        clear hgne
        go_wp2_with (at_builtin; go_loud (refine app_ownS rfl _ _ 22 rfl w1.heap.size 5 (.int .u8 0) 1 Tryz.underlying22 byte_infoX rfl (by decide) _ d.length (d.map byteV) rfl hownB ?hv _ 1 1 [.int .u8 ((f : Int) / 2 ^ (8 * t) % 256)] rfl (Sl.one _ _ _) ?h1 ?hb ?hB ?_))
        case hv => intro h; have h2 : Value.slice (some ⟨g3, 0, none⟩) d.length c3 = .slice none 0 0 := h; simp at h2
        case h1 => intro u hu; simp at hu; subst hu; rfl
        case hb => omega
        case hB => exact (hkx.transNo hkB).size
        intro g4 c4 w4 hown4 hg4 _ _
        have hb4 : w4.heap[w1.heap.size]? = some (.cells #[.int .i64 4, .int .i64 n, .string s, .int .u64 (f : Int)] 32 (0, 0)) := (hg4.block w1.heap.size ((Array.getElem?_eq_some_iff.1 hbB).1) (fun e => Hgne.out (by have e2 : some w1.heap.size = some g3 := e; injection e2 with e2; exact e2.symm))).trans hbB
        go_wp2_with fail
        go_roundg (8 - (t + 1))
        case measure => have := Hq2.out; omega
        case rel =>
          have e1 : d.map byteV ++ [.int .u8 ((f : Int) / 2 ^ (8 * t) % 256)] = (d ++ [UInt8.ofNat (f / 2 ^ (8 * t))]).map byteV := by rw [List.map_append]; simp only [List.map_cons, List.map_nil, byteV]; rw [byte_shift]
          have e2 : 1 + t + 1 = (d ++ [UInt8.ofNat (f / 2 ^ (8 * t))]).length := by simp; omega
          rw [e1, e2] at hown4
          refine ⟨t + 1, g4, c4, d ++ [UInt8.ofNat (f / 2 ^ (8 * t))], by omega, rfl, by go_num, Lib.hid (by rw [Hd.out, le8_take f ht8]; rfl), by simp; omega, by rw [e2], hown4, (hkx.transNo hkB).grown hg4 (fun i hi hlt2 => by have := (hown3.lt i hi).1; exact absurd hlt2 (by omega)), hb4⟩
      · obtain rfl : t = 8 := by omega
        obtain ⟨a9, c9, he9, hs9, _⟩ := Sl.ofOwn hown3
        obtain ⟨rfl, rfl⟩ : some ⟨g3, 0, none⟩ = a9 ∧ c3 = c9 := by
          simp only [Value.slice.injEq, true_and] at he9
          exact he9
        go_wp2_with fail
        go_ret
        refine ⟨_, _, _, rfl, ?_, hk01.transNo hkx⟩
        rw [Hv.out]
        have e9 : d = UInt8.ofNat (4 : Int).toNat :: le8 f := by rw [Hd.out, List.take_of_length_le (l := le8 f) (by rw [le8_len]; exact Nat.le_refl _)]; rfl
        rw [← e9]
        exact hs9
end Go.Proofs.YthbipcjgpocpaaaGreat
/- Layer 14, the document's answer: the walks of Right, Full, Same, Rest. -/
namespace Go.Proofs.YthbipcjgpocpaaaGreat
open Go.RowKit
set_option linter.unusedSimpArgs false
set_option linter.unusedVariables false
set_option maxRecDepth 100000

theorem own_other {w w' : World} {b1 b2 k1 k2 n1 n2 : Nat} {e1 e2 : TypeId} {v1 v2 : Value} {x1 x2 : List Value} (h1 : w.ownsRow b1 e1 k1 v1 n1 x1) (h2 : w.ownsRow b2 e2 k2 v2 n2 x2) (hne : e1 ≠ e2) (hg : w.grownBy w' v1.ownBlock) : w'.ownsRow b2 e2 k2 v2 n2 x2 := by
  refine ⟨h2.1, ?_⟩
  rcases h2.2 with hn | ⟨g, cap, cur, rfl, hb, hgg, rest⟩
  · exact .inl hn
  · refine .inr ⟨g, cap, cur, rfl, hb, (hg.block g ((Array.getElem?_eq_some_iff.1 hgg).1) (fun e => ?_)).trans hgg, rest⟩
    rcases h1.2 with ⟨rfl, _⟩ | ⟨g1, cap1, cur1, rfl, _, hg1, _⟩
    · cases e
    · have e' : some g = some g1 := e
      injection e' with e'
      subst e'
      rw [hgg] at hg1
      simp only [Option.some.injEq, Obj.cells.injEq] at hg1
      exact hne hg1.2.1.symm
theorem blk_other {w w' : World} {b1 k1 n1 b : Nat} {e1 t : TypeId} {v1 : Value} {x1 : List Value} {cs : Array Value} {fr : Nat × Nat} (h1 : w.ownsRow b1 e1 k1 v1 n1 x1) (h2 : w.heap[b]? = some (.cells cs t fr)) (hne : e1 ≠ t) (hg : w.grownBy w' v1.ownBlock) : w'.heap[b]? = some (.cells cs t fr) := by
  refine (hg.block b ((Array.getElem?_eq_some_iff.1 h2).1) (fun e => ?_)).trans h2
  rcases h1.2 with ⟨rfl, _⟩ | ⟨g1, cap1, cur1, rfl, _, hg1, _⟩
  · cases e
  · have e' : some b = some g1 := e
    injection e' with e'
    subst e'
    rw [h2] at hg1
    simp only [Option.some.injEq, Obj.cells.injEq] at hg1
    exact hne hg1.2.1.symm

set_option maxHeartbeats 2000000 in
theorem rright14_any (k : Int) (a : Option Addr) (n c : Nat) (L : List Va) (w : World) (hs : SlK w 4 a n c (L.map Va.cells)) (hL : ∀ v ∈ L, v.wf) :
    Calls Tryz.prog 20 #[.int .i64 k, .slice a n c] w fun e w' => e = .returned (.bool (rightC k L)) ∧ Keeps No w w' := by
  have hlen : L.length = n := by simpa using hs.len
  have hwm := hs.max
  have hwl := hs.le
  unfold maxLen at hwm
  obtain ⟨R, hRR⟩ : ∃ R, R = rightC k L := ⟨_, rfl⟩
  have hR : R = (decide (1 ≤ k ∧ k ≤ 4 ∧ n ≤ 256) && L.all (okC k)) := by rw [hRR]; unfold rightC; rw [hlen]
  rw [← hRR]
  have HR := Lib.hid hR
  have Hlen := Lib.hid hlen
  have HL := Lib.hid hL
  clear hR hRR hlen hL
  go_enter Tryz.func20, Tryz.ntmps20
  go_wp2_with fail
  go_loopg [9] n (fun q i wr => ∃ (m : Nat), m ≤ n ∧ q = n - m ∧ i = .int .i64 (m : Int) ∧ Hid ((L.take m).all (okC k) = true) ∧ Keeps No w wr)
  case atStart => exact ⟨0, Nat.zero_le _, rfl, rfl, Lib.hid rfl, Keeps.refl _ _⟩
  case round =>
    obtain ⟨m, hm, hq, rfl, HA, hkr⟩ := hrel
    have Hq := Lib.hid hq
    clear hq
    by_cases hlt : m < n
    · have hlt' : m < L.length := by rw [Hlen.out]; exact hlt
      have hsr := hs.kept hkr
      have hix := hsr.ix (P := Tryz.prog) Tryz.underlying25 val_size hlt .i64
      obtain ⟨hld, _⟩ := hsr.load (P := Tryz.prog) (ty := 32) Tryz.underlying32 rfl val_size hlt
      rw [vget L hlt'] at hld
      obtain ⟨x, hx⟩ : ∃ x, x = L.getD m Va.zero := ⟨_, rfl⟩
      rw [← hx] at hld
      have hxm : x ∈ L := by rw [hx]; simp [hlt']
      have hcall := fun wx => refright_any x (HL.out x hxm) wx
      have htk : (L.take (m + 1)).all (okC k) = okC k x := by
        have hg : L.getD m Va.zero = L[m] := by simp [hlt']
        rw [hx, hg, List.take_succ_eq_append_getElem hlt', List.all_append, HA.out]; simp
      have hno : okC k x = false → L.all (okC k) = false := fun h => List.all_eq_false.2 ⟨x, hxm, by rw [h]; simp⟩
      have Htk := Lib.hid htk
      have Hno := Lib.hid hno
      obtain ⟨r, hr⟩ : ∃ r, r = rightV x := ⟨_, rfl⟩
      rw [← hr] at hcall
      have hok : okC k x = (r && (decide (x.k = k) || decide (x.k = 0))) := by rw [hr]; rfl
      have Hok := Lib.hid hok
      clear hx hxm hsr htk hno hr hok
      obtain ⟨xk, xn, xs, xf⟩ := x
      unfold Va.agg at hcall
      unfold Va.cells at hld
      simp only at hld hcall Hok
      have hkN : Keeps No wr (wr.alloc (.cells #[.int .i64 xk, .int .i64 xn, .string xs, .int .u64 (xf : Int)] 32)) := (Keeps.refl No wr).alloc _
      have hbN := heap_alloc_new wr (.cells #[.int .i64 xk, .int .i64 xn, .string xs, .int .u64 (xf : Int)] 32)
      go_wp2_with (refine wpList_loadV (op := ⟨some 12, _, _, _, _, _⟩) rfl 32 (.tmp 11) rfl _ rfl _ hld ?_)
      refine (hcall _).mono ?_
      rintro e w3 ⟨rfl, hk3⟩
      obtain ⟨c0, c1, c2, c3⟩ := row4 (hk3.blk hbN (not_No _))
      have hk03 := (hkr.transNo hkN).transNo hk3
      clear hcall hld
      cases r with
      | false =>
        go_wp2_with fail
        go_ret
        exact ⟨by rw [HR.out, Hno.out (by rw [Hok.out]; rfl)]; simp, hk03⟩
      | true =>
        by_cases h0 : xk = 0
        · have e0 : (xk != 0) = false := by simp [h0]
          have H0 := Lib.hid h0
          clear h0
          go_wp2_with fail
          go_roundg (n - (m + 1))
          case measure => have := Hq.out; omega
          case rel => exact ⟨m + 1, by omega, rfl, by go_num, Lib.hid (by rw [Htk.out, Hok.out]; simp [H0.out]), hk03⟩
        · have e0 : (xk != 0) = true := by simp [h0]
          have H0 := Lib.hid h0
          clear h0
          by_cases h1 : xk = k
          · have e1 : (xk != k) = false := by simp [h1]
            have H1 := Lib.hid h1
            clear h1
            go_wp2_with fail
            go_roundg (n - (m + 1))
            case measure => have := Hq.out; omega
            case rel => exact ⟨m + 1, by omega, rfl, by go_num, Lib.hid (by rw [Htk.out, Hok.out]; simp [H1.out]), hk03⟩
          · have e1 : (xk != k) = true := by simp [h1]
            have H1 := Lib.hid h1
            clear h1
            go_wp2_with fail
            go_ret
            exact ⟨by rw [HR.out, Hno.out (by rw [Hok.out]; simp [H0.out, H1.out])]; simp, hk03⟩
    · obtain rfl : m = n := by omega
      have hA : L.all (okC k) = true := by have := HA.out; rwa [List.take_of_length_le (by rw [Hlen.out]; exact Nat.le_refl _)] at this
      have HAA := Lib.hid hA
      clear hA
      by_cases h1 : k < 1
      · go_wp2_with fail
        go_ret
        exact ⟨ret_bool (by rw [HR.out, decide_eq_false (p := 1 ≤ k ∧ k ≤ 4 ∧ m ≤ 256) (by omega)]; rfl), hkr⟩
      by_cases h4 : 4 < k
      · go_wp2_with fail
        go_ret
        exact ⟨ret_bool (by rw [HR.out, decide_eq_false (p := 1 ≤ k ∧ k ≤ 4 ∧ m ≤ 256) (by omega)]; rfl), hkr⟩
      by_cases hn : 256 < m
      · go_wp2_with fail
        go_ret
        exact ⟨ret_bool (by rw [HR.out, decide_eq_false (p := 1 ≤ k ∧ k ≤ 4 ∧ m ≤ 256) (by omega)]; simp; try omega), hkr⟩
      go_wp2_with fail
      go_ret
      exact ⟨ret_bool (by rw [HR.out, decide_eq_true (p := 1 ≤ k ∧ k ≤ 4 ∧ m ≤ 256) (by omega), HAA.out]; simp; omega), hkr⟩

set_option maxHeartbeats 2000000 in
theorem rfull_any (a : Option Addr) (n c : Nat) (L : List Va) (w : World) (hs : SlK w 4 a n c (L.map Va.cells)) (hn : n ≤ 1000000) :
    Calls Tryz.prog 41 #[.slice a n c] w fun e w' => ∃ v, e = .returned v ∧ w'.ownsRow w.heap.size 32 4 v (fullC L).length ((fullC L).map Va.cells).flatten ∧ Keeps No w w' := by
  have hlen : L.length = n := by simpa using hs.len
  have Hlen := Lib.hid hlen
  clear hlen
  go_enter Tryz.func41, Tryz.ntmps41
  go_wp2_with fail
  go_loopg [8, 3] n (fun q i bv wr => ∃ (m : Nat) (X : List Va), m ≤ n ∧ q = n - m ∧ i = .int .i64 (m : Int) ∧ Hid (X = fullC (L.take m)) ∧ X.length ≤ m ∧ wr.ownsRow w.heap.size 32 4 bv X.length (X.map Va.cells).flatten ∧ Keeps No w wr)
  case atStart => exact ⟨0, [], Nat.zero_le _, rfl, rfl, Lib.hid rfl, Nat.zero_le _, World.ownsRow_nil _ _ _ _, Keeps.refl _ _⟩
  case round =>
    obtain ⟨m, X, hm, hq, rfl, HX, hXl, hown, hkr⟩ := hrel
    have Hq := Lib.hid hq
    have hzr := hkr.size
    clear hq
    by_cases hlt : m < n
    · have hlt' : m < L.length := by rw [Hlen.out]; exact hlt
      have hsr := hs.kept hkr
      have hix := hsr.ix (P := Tryz.prog) Tryz.underlying25 val_size hlt .i64
      obtain ⟨hld, _⟩ := hsr.load (P := Tryz.prog) (ty := 32) Tryz.underlying32 rfl val_size hlt
      rw [vget L hlt'] at hld
      obtain ⟨x, hx⟩ : ∃ x, x = L.getD m Va.zero := ⟨_, rfl⟩
      rw [← hx] at hld
      have hg : L[m] = x := by rw [hx]; simp [hlt']
      have Hg := Lib.hid hg
      clear hx hsr hg
      obtain ⟨xk, xn, xs, xf⟩ := x
      unfold Va.cells at hld
      simp only at hld
      have hkN : Keeps No wr (wr.alloc (.cells #[.int .i64 xk, .int .i64 xn, .string xs, .int .u64 (xf : Int)] 32)) := (Keeps.refl No wr).alloc _
      by_cases h0 : xk = 0
      · have e0 : (xk != 0) = false := by simp [h0]
        have hft := full_hit L hlt' (by rw [Hg.out]; exact h0)
        have Hft := Lib.hid hft
        clear h0 hft
        go_wp2_with (refine wpList_loadV (op := ⟨some 11, _, _, _, _, _⟩) rfl 32 (.tmp 10) rfl _ rfl _ hld ?_)
        go_roundg (n - (m + 1))
        case measure => have := Hq.out; omega
        case rel => exact ⟨m + 1, X, by omega, rfl, by go_num, Lib.hid (by rw [Hft.out, HX.out]), by omega, hkN.own hown (fun _ _ => not_No _), hkr.transNo hkN⟩
      · have e0 : (xk != 0) = true := by simp [h0]
        have hft := full_miss L hlt' (by rw [Hg.out]; exact h0)
        have Hft := Lib.hid hft
        have hkB : Keeps No wr ((wr.alloc (.cells #[.int .i64 xk, .int .i64 xn, .string xs, .int .u64 (xf : Int)] 32)).alloc (.cells #[.int .i64 xk, .int .i64 xn, .string xs, .int .u64 (xf : Int)] 32)) := hkN.alloc _
        have hownB := hkB.own hown (fun _ _ => not_No _)
        have hone := SlK.one (wr.alloc (.cells #[.int .i64 xk, .int .i64 xn, .string xs, .int .u64 (xf : Int)] 32)) (Va.cells ⟨xk, xn, xs, xf⟩) 32 (k := 4) rfl
        rw [show (wr.alloc (.cells #[.int .i64 xk, .int .i64 xn, .string xs, .int .u64 (xf : Int)] 32)).heap.size = wr.heap.size + 1 by simp] at hone
        clear h0 hft
        go_wp2_with (first | (refine wpList_loadV (op := ⟨some 11, _, _, _, _, _⟩) rfl 32 (.tmp 10) rfl _ rfl _ hld ?_) | (at_builtin; go_loud (refine app_ownK rfl _ _ 25 rfl w.heap.size 32 _ 4 40 Tryz.underlying25 val_info rfl (by decide) (by decide) _ X.length (X.map Va.cells).flatten rfl hownB _ 1 1 [Va.cells ⟨xk, xn, xs, xf⟩] rfl hone ?h1 ?hb ?hB ?_)))
        case h1 => exact vals_one [⟨xk, xn, xs, xf⟩]
        case hb => omega
        case hB => simp; omega
        intro v7 w7 hown7 hg7 _
        go_wp2_with fail
        go_roundg (n - (m + 1))
        case measure => have := Hq.out; omega
        case rel =>
          refine ⟨m + 1, X ++ [⟨xk, xn, xs, xf⟩], by omega, rfl, by go_num, Lib.hid (by rw [Hft.out, HX.out, Hg.out]), by simp; omega, ?_, (hkr.transNo hkB).grown hg7 (fun i hi hlt2 => by have := (hown.lt i hi).1; exact absurd hlt2 (by omega))⟩
          rw [List.map_append, List.flatten_append, List.length_append]; exact hown7
    · obtain rfl : m = n := by omega
      go_wp2_with fail
      go_ret
      rw [HX.out, List.take_of_length_le (by rw [Hlen.out]; exact Nat.le_refl _)] at hown
      exact ⟨_, rfl, hown, hkr⟩

theorem val_neq (a b : Va) (w : World) : (binOp .neq 32 a.agg b.agg).run Tryz.prog w = .ok (.bool (!decide (a = b))) w := by
  obtain ⟨k, n, s, f⟩ := a
  obtain ⟨k', n', s', f'⟩ := b
  have e : ((⟨k, n, s, f⟩ : Va) = ⟨k', n', s', f'⟩) ↔ k = k' ∧ n = n' ∧ s = s' ∧ f = f' := by simp
  rw [show decide ((⟨k, n, s, f⟩ : Va) = ⟨k', n', s', f'⟩) = decide (k = k' ∧ n = n' ∧ s = s' ∧ f = f') from decide_eq_decide.2 e]
  unfold Va.agg
  have hs := barr_eq s s'
  go_simp
  by_cases h0 : k = k' <;> by_cases h1 : n = n' <;> by_cases h2 : s = s' <;> by_cases h3 : f = f' <;> simp [h0, h1, h2, h3] <;> omega

set_option maxHeartbeats 4000000 in
theorem vsame_any (a : Option Addr) (n c : Nat) (L : List Va) (a' : Option Addr) (n' c' : Nat) (M : List Va) (w : World) (hs : SlK w 4 a n c (L.map Va.cells)) (hs' : SlK w 4 a' n' c' (M.map Va.cells)) (hn : n ≤ 140737488351232) :
    Calls Tryz.prog 7 #[.slice a n c, .slice a' n' c'] w fun e w' => e = .returned (.bool (decide (L = M))) ∧ Keeps No w w' := by
  have hlen : L.length = n := by simpa using hs.len
  have hlen' : M.length = n' := by simpa using hs'.len
  have Hlen := Lib.hid hlen
  have Hlen' := Lib.hid hlen'
  have hmx := hs'.max
  have hle' := hs'.le
  unfold maxLen at hmx
  clear hlen hlen'
  go_enter Tryz.func7, Tryz.ntmps7
  by_cases hnn : n = n'
  case neg =>
    have e0 : ((n : Int) != (n' : Int)) = true := by simp; omega
    have Hnn := Lib.hid hnn
    clear hnn
    have hd : decide (L = M) = false := decide_eq_false (fun h => Hnn.out (by rw [← Hlen.out, ← Hlen'.out, h]))
    have Hd := Lib.hid hd
    clear hd
    go_wp2_with fail
    go_ret
    exact ⟨by rw [Hd.out]; rfl, Keeps.refl _ _⟩
  subst hnn
  go_wp2_with fail
  go_loopg [13] n (fun q i wr => ∃ (m : Nat), m ≤ n ∧ q = n - m ∧ i = .int .i64 (m : Int) ∧ Hid (L.take m = M.take m) ∧ Keeps No w wr)
  case atStart => exact ⟨0, Nat.zero_le _, rfl, rfl, Lib.hid rfl, Keeps.refl _ _⟩
  case round =>
    obtain ⟨m, hm, hq, rfl, HA, hkr⟩ := hrel
    have Hq := Lib.hid hq
    clear hq
    by_cases hlt : m < n
    · have hlt1 : m < L.length := by rw [Hlen.out]; exact hlt
      have hlt2 : m < M.length := by rw [Hlen'.out]; exact hlt
      have hsr := hs.kept hkr
      have hsr' := hs'.kept hkr
      have hix := hsr.ix (P := Tryz.prog) Tryz.underlying25 val_size hlt .i64
      have hix' := hsr'.ix (P := Tryz.prog) Tryz.underlying25 val_size hlt .i64
      have hld := fun wx (hx : Keeps No wr wx) => ((hsr.kept hx).load (P := Tryz.prog) (ty := 32) Tryz.underlying32 rfl val_size hlt).1
      have hld' := fun wx (hx : Keeps No wr wx) => ((hsr'.kept hx).load (P := Tryz.prog) (ty := 32) Tryz.underlying32 rfl val_size hlt).1
      rw [vget L hlt1] at hld
      rw [vget M hlt2] at hld'
      obtain ⟨x, hx⟩ : ∃ x, x = L.getD m Va.zero := ⟨_, rfl⟩
      obtain ⟨y, hy⟩ : ∃ y, y = M.getD m Va.zero := ⟨_, rfl⟩
      rw [← hx] at hld
      rw [← hy] at hld'
      have hgx : L[m] = x := by rw [hx]; simp [hlt1]
      have hgy : M[m] = y := by rw [hy]; simp [hlt2]
      have hbin := fun wx => val_neq x y wx
      obtain ⟨D, hD⟩ : ∃ D, D = decide (x = y) := ⟨_, rfl⟩
      simp only [← hD] at hbin
      have HD := Lib.hid hD
      clear hD
      have hst : x = y → L.take (m + 1) = M.take (m + 1) := fun h => by rw [List.take_succ_eq_append_getElem hlt1, List.take_succ_eq_append_getElem hlt2, HA.out, hgx, hgy, h]
      have hno : ¬ x = y → ¬ L = M := fun h e => h (by subst e; rw [← hgx, ← hgy])
      have Hst := Lib.hid hst
      have Hno := Lib.hid hno
      clear hx hy hgx hgy hst hno hsr hsr'
      unfold Va.agg at hbin
      unfold Va.cells at hld hld'
      go_wp2_with fail
      refine wp_region_held_drew (S := fun wx => Keeps No wr wx) (by kernel_rfl) ((Keeps.refl No wr).drew) (fun hS => ?_)
      refine tk (i := 0) (oi := ⟨some 16, _, _, _, _, _⟩) (v := ?_) rfl (by kernel_rfl) (fun _ _ _ h => h) (by assumption) (by rfl) (fun w hSw => ?_) ?_; rotate_left; (focus (first | (go_simp; done) | (go_simp; with_reducible rfl))); simp only [Act.put, List.setIfInBounds_toArray, List.set_cons_zero, List.set_cons_succ]
      refine tk (i := 1) (oi := ⟨some 17, _, _, _, _, _⟩) (v := ?_) rfl (by kernel_rfl) (fun _ _ _ h => h) (by assumption) (by rfl) (fun w hSw => ?_) ?_; rotate_left; (focus (first | (go_simp; done) | (go_simp; with_reducible rfl))); simp only [Act.put, List.setIfInBounds_toArray, List.set_cons_zero, List.set_cons_succ]
      refine tk (i := 2) (oi := ⟨some 18, _, _, _, _, _⟩) (v := ?_) rfl (by kernel_rfl) (fun _ _ _ h => h) (by assumption) (by rfl) (fun w hSw => ?_) ?_; rotate_left; (focus (first | (go_simp; done) | (go_simp; with_reducible rfl))); simp only [Act.put, List.setIfInBounds_toArray, List.set_cons_zero, List.set_cons_succ]
      refine tk (i := 4) (oi := ⟨some 20, _, _, _, _, _⟩) (v := ?_) rfl (by kernel_rfl) (fun _ _ _ h => h) (by assumption) (by rfl) (fun w hSw => ?_) ?_; rotate_left; (focus (first | (go_simp; done) | (go_simp; with_reducible rfl))); simp only [Act.put, List.setIfInBounds_toArray, List.set_cons_zero, List.set_cons_succ]
      refine tk (i := 5) (oi := ⟨some 21, _, _, _, _, _⟩) (v := ?_) rfl (by kernel_rfl) (fun _ _ _ h => h) (by assumption) (by rfl) (fun w hSw => ?_) ?_; rotate_left; (focus (first | (go_simp; done) | (go_simp; with_reducible rfl))); simp only [Act.put, List.setIfInBounds_toArray, List.set_cons_zero, List.set_cons_succ]
      refine tk (i := 6) (oi := ⟨some 22, _, _, _, _, _⟩) (v := ?_) rfl (by kernel_rfl) (fun _ _ _ h => h) (by assumption) (by rfl) (fun w hSw => ?_) ?_; rotate_left; (focus (first | (go_simp; done) | (go_simp; with_reducible rfl))); simp only [Act.put, List.setIfInBounds_toArray, List.set_cons_zero, List.set_cons_succ]
      refine twoH (i := 3) (j := 7) (oi := ⟨some 19, _, _, _, _, _⟩) (oj := ⟨some 23, _, _, _, _, _⟩) rfl rfl (by kernel_rfl) (by rfl) (by rfl) (fun K hK => ?_) (fun K hK => ?_)
      · skip
        refine wp_loadV 32 (.tmp 18) rfl _ rfl _ (hld _ hS) ?_
        refine hK.out (fun wx => Keeps No wr wx) _ _ (fun _ h => h) (hS) ?_
        clear hK K hS
        intro hS
        refine alone (i := 7) (oi := ⟨some 23, _, _, _, _, _⟩) rfl (by kernel_rfl) (by rfl) (fun K hK => ?_)
        refine wp_loadV 32 (.tmp 22) rfl _ rfl _ (hld' _ hS) ?_
        refine hK.out (fun wx => Keeps No wr wx) _ _ (fun _ h => h) (hS) ?_
        clear hK K hS
        intro hS
        refine tk (i := 8) (oi := ⟨some 24, _, _, _, _, _⟩) (v := ?_) rfl (by kernel_rfl) (fun _ _ _ h => h) (by assumption) (by rfl) (fun w hSw => ?_) ?_; rotate_left; (focus (first | (go_simp; done) | (go_simp; with_reducible rfl))); simp only [Act.put, List.setIfInBounds_toArray, List.set_cons_zero, List.set_cons_succ]
        refine wpAnyH_done (by kernel_rfl) ?_ _
        have hkz := hkr.transNo hS
        cases D with
        | true =>
          have hxy : x = y := by have := HD.out; simpa using this
          have Hxy := Lib.hid hxy
          clear hxy
          go_wp2_with fail
          go_roundg (n - (m + 1))
          case measure => have := Hq.out; omega
          case rel => exact ⟨m + 1, by omega, rfl, by go_num, Lib.hid (Hst.out Hxy.out), hkz⟩
        | false =>
          have hxy : ¬ x = y := by have := HD.out; simpa using this
          have hd : decide (L = M) = false := decide_eq_false (Hno.out hxy)
          have Hd := Lib.hid hd
          clear hxy hd
          go_wp2_with fail
          go_ret
          exact ⟨by rw [Hd.out]; rfl, hkz⟩
      · skip
        refine wp_loadV 32 (.tmp 22) rfl _ rfl _ (hld' _ hS) ?_
        refine hK.out (fun wx => Keeps No wr wx) _ _ (fun _ h => h) (hS) ?_
        clear hK K hS
        intro hS
        refine alone (i := 3) (oi := ⟨some 19, _, _, _, _, _⟩) rfl (by kernel_rfl) (by rfl) (fun K hK => ?_)
        refine wp_loadV 32 (.tmp 18) rfl _ rfl _ (hld _ hS) ?_
        refine hK.out (fun wx => Keeps No wr wx) _ _ (fun _ h => h) (hS) ?_
        clear hK K hS
        intro hS
        refine tk (i := 8) (oi := ⟨some 24, _, _, _, _, _⟩) (v := ?_) rfl (by kernel_rfl) (fun _ _ _ h => h) (by assumption) (by rfl) (fun w hSw => ?_) ?_; rotate_left; (focus (first | (go_simp; done) | (go_simp; with_reducible rfl))); simp only [Act.put, List.setIfInBounds_toArray, List.set_cons_zero, List.set_cons_succ]
        refine wpAnyH_done (by kernel_rfl) ?_ _
        have hkz := hkr.transNo hS
        cases D with
        | true =>
          have hxy : x = y := by have := HD.out; simpa using this
          have Hxy := Lib.hid hxy
          clear hxy
          go_wp2_with fail
          go_roundg (n - (m + 1))
          case measure => have := Hq.out; omega
          case rel => exact ⟨m + 1, by omega, rfl, by go_num, Lib.hid (Hst.out Hxy.out), hkz⟩
        | false =>
          have hxy : ¬ x = y := by have := HD.out; simpa using this
          have hd : decide (L = M) = false := decide_eq_false (Hno.out hxy)
          have Hd := Lib.hid hd
          clear hxy hd
          go_wp2_with fail
          go_ret
          exact ⟨by rw [Hd.out]; rfl, hkz⟩
    · obtain rfl : m = n := by omega
      have hd : decide (L = M) = true := decide_eq_true (by have := HA.out; rwa [List.take_of_length_le (by rw [Hlen.out]; exact Nat.le_refl _), List.take_of_length_le (by rw [Hlen'.out]; exact Nat.le_refl _)] at this)
      have Hd := Lib.hid hd
      clear hd
      go_wp2_with fail
      go_ret
      exact ⟨by rw [Hd.out]; rfl, hkr⟩
end Go.Proofs.YthbipcjgpocpaaaGreat
/- Layer 14, the document's answer: the walks of Rest and Put. -/
namespace Go.Proofs.YthbipcjgpocpaaaGreat
open Go.RowKit
set_option linter.unusedSimpArgs false
set_option linter.unusedVariables false
set_option maxRecDepth 100000

def RestRet (r : Option (List UInt8)) (w : World) (e : Ending) (w' : World) : Prop :=
  (r = none ∧ e = .returned (.tuple #[.slice none 0 0, .bool false]) ∧ Keeps No w w') ∨
  (∃ b a c, r = some b ∧ e = .returned (.tuple #[.slice a b.length c, .bool true]) ∧ Sl w' a b.length c (b.map byteV) ∧ Keeps No w w')

set_option maxHeartbeats 8000000 in
theorem rrest_any (k : Int) (cd : Nat) (hcd : cd < 4) (a : Option Addr) (n c : Nat) (F : List Va) (w : World) (hs : SlK w 4 a n c (F.map Va.cells)) (hF : Fu k F) :
    Calls Tryz.prog 40 #[.int .i64 k, .int .i64 (cd : Int), .slice a n c] w (RestRet (restC k F cd) w) := by
  have hlen : F.length = n := by simpa using hs.len
  have hn : n ≤ 256 := by rw [← hlen]; exact hF.len
  have hk1 := hF.k1
  have hnw := numsC_wf fun v hv => (hF.all v hv).2.2
  have hni := numsC_ints fun v hv => (hF.all v hv).2.2
  have hts : ∀ x ∈ txtsC F, x.length ≤ 100000 := fun x hx => by have := txtsC_small hF x hx; omega
  have hpn := plainC_len (L := F) (fun v hv => ⟨(hF.all v hv).1, (hF.all v hv).2.2⟩)
  have Hlen := Lib.hid hlen
  have Hall := Lib.hid hF.all
  clear hlen hF
  go_enter Tryz.func40, Tryz.ntmps40
  go_wp2_with fail
  go_loopg [16, 8, 9, 10] n (fun q i bv nv sv wr => ∃ (m : Nat) (b : List UInt8) (X : List Int) (T : List Tx), m ≤ n ∧ q = n - m ∧ i = .int .i64 (m : Int) ∧ Hid (b = plainC (F.take m)) ∧ Hid (X = numsC (F.take m)) ∧ Hid (T = txtsC (F.take m)) ∧ b.length ≤ m * 74 ∧ X.length = m ∧ T.length = m ∧
      wr.ownsRow w.heap.size 5 1 bv b.length (b.map byteV) ∧ wr.ownsRow w.heap.size 3 1 nv m (X.map intV) ∧ wr.ownsRow w.heap.size 9 1 sv m (T.map txV) ∧ Keeps No w wr)
  case atStart => exact ⟨0, [], [], [], Nat.zero_le _, rfl, rfl, Lib.hid rfl, Lib.hid rfl, Lib.hid rfl, Nat.zero_le _, rfl, rfl, World.ownsRow_nil _ _ _ _, World.ownsRow_nil _ _ _ _, World.ownsRow_nil _ _ _ _, Keeps.refl _ _⟩
  case round =>
    obtain ⟨m, b, X, T, hm, hq, rfl, Hb, HX, HT, hbl, hXl, hTl, hob, hon, hos, hkr⟩ := hrel
    have Hq := Lib.hid hq
    have HXl := Lib.hid hXl
    have HTl := Lib.hid hTl
    have hzr := hkr.size
    clear hq hXl hTl
    by_cases hlt : m < n
    · have hlt' : m < F.length := by rw [Hlen.out]; exact hlt
      have hsr := hs.kept hkr
      have hix := hsr.ix (P := Tryz.prog) Tryz.underlying25 val_size hlt .i64
      obtain ⟨hld, _⟩ := hsr.load (P := Tryz.prog) (ty := 32) Tryz.underlying32 rfl val_size hlt
      rw [vget F hlt'] at hld
      obtain ⟨x, hx⟩ : ∃ x, x = F.getD m Va.zero := ⟨_, rfl⟩
      rw [← hx] at hld
      have hxm : x ∈ F := by rw [hx]; simp [hlt']
      obtain ⟨hxr, hxk, hxw⟩ := Hall.out x hxm
      have hpl := plainV_len hxr hxw
      have hg : F[m] = x := by rw [hx]; simp [hlt']
      have htb : plainC (F.take (m + 1)) = b ++ plainV x := by rw [List.take_succ_eq_append_getElem hlt', plainC_snoc, hg, Hb.out]
      have htn : numsC (F.take (m + 1)) = X ++ [numV x] := by rw [List.take_succ_eq_append_getElem hlt', hg, HX.out]; unfold numsC; rw [List.map_append]; rfl
      have htt : txtsC (F.take (m + 1)) = T ++ [x.s.data.toList] := by rw [List.take_succ_eq_append_getElem hlt', hg, HT.out]; unfold txtsC; rw [List.map_append]; rfl
      have Htb := Lib.hid htb
      have Htn := Lib.hid htn
      have Htt := Lib.hid htt
      have hcall := fun wx => r3put_any x hxr (by rw [hxk]; exact hk1) hxw wx
      have hplen : (UInt8.ofNat x.k.toNat :: plainV x).length = (plainV x).length + 1 := rfl
      generalize hP : plainV x = P at hcall hpl Htb hplen
      clear hP
      clear hx hxm hsr htb htn htt hg
      obtain ⟨xk, xn, xs, xf⟩ := x
      simp only at hxk
      subst hxk
      unfold Va.agg at hcall
      unfold Va.cells at hld
      simp only at hld hcall
      have hfw := hxw.2.2
      simp only at hfw
      have hkN : Keeps No wr (wr.alloc (.cells #[.int .i64 xk, .int .i64 xn, .string xs, .int .u64 (xf : Int)] 32)) := (Keeps.refl No wr).alloc _
      have hbN := heap_alloc_new wr (.cells #[.int .i64 xk, .int .i64 xn, .string xs, .int .u64 (xf : Int)] 32)
      go_wp2_with (refine wpList_loadV (op := ⟨some 19, _, _, _, _, _⟩) rfl 32 (.tmp 18) rfl _ rfl _ hld ?_)
      refine (hcall _).mono ?_
      rintro e w2 ⟨a2, n2, c2, rfl, hs2, hk2⟩
      have hl2 : n2 = P.length + 1 := by have := hs2.len; simpa using this.symm
      subst hl2
      obtain ⟨a3, hsl1, hsl2, hs3, _⟩ := hs2.from_ (P := Tryz.prog) (T := 22) Tryz.underlying22 (by kernel_rfl) (k := 1) (by omega) .i64 1 rfl
      rw [Nat.add_sub_cancel] at hsl1 hsl2 hs3
      have hs3' : Sl w2 a3 P.length (c2 - 1) (P.map byteV) := hs3
      have hkN2 := hkN.transNo hk2
      have hob2 := hkN2.own hob (fun _ _ => not_No _)
      have hon2 := hkN2.own hon (fun _ _ => not_No _)
      have hos2 := hkN2.own hos (fun _ _ => not_No _)
      have hbx2 := hk2.blk hbN (not_No _)
      have hk02 := hkr.transNo hkN2
      have hm74 : m * 74 ≤ 256 * 74 := Nat.mul_le_mul_right _ (by omega)
      clear hcall hld hs3 hob hon hos hbN
      go_wp2_with (at_builtin; go_loud (refine app_own rfl _ _ 22 rfl w.heap.size 5 (.int .u8 0) 1 Tryz.underlying22 byte_infoX rfl (by decide) _ b.length (b.map byteV) rfl hob2 a3 P.length (c2 - 1) (P.map byteV) rfl hs3' ?h1 ?hb ?hB ?_))
      case h1 => exact byteV_one _
      case hb => omega
      case hB => exact hk02.size
      intro v4 w4 hob4 hg4
      have hon4 := own_other hob2 hon2 (by decide) hg4
      have hos4 := own_other hob2 hos2 (by decide) hg4
      have hbx4 := blk_other hob2 hbx2 (by decide) hg4
      have hk04 := hk02.grown hg4 (fun i hi hlt2 => by have := (hob2.lt i hi).1; exact absurd hlt2 (by omega))
      have hz4 := hk04.size
      obtain ⟨x0, x1, x2, x3⟩ := row4 hbx4
      clear hob2 hon2 hos2 hbx2 hs3' hs2 hkN2 hk2 hkN
      obtain ⟨nv, hnv⟩ : ∃ nv, nv = numV ⟨xk, xn, xs, xf⟩ := ⟨_, rfl⟩
      rw [← hnv] at Htn
      by_cases h4 : xk = 4
      · have hnv2 : nv = wrap64 (xf : Int) := by rw [hnv, wrap64_f hfw]; unfold numV; simp [h4]
        have Hnv := Lib.hid hnv2
        subst h4
        clear hnv hnv2
        have hkI : Keeps No w4 (w4.alloc (.cells #[.int .i64 (wrap64 (xf : Int))] 3)) := (Keeps.refl No w4).alloc _
        have honI := hkI.own hon4 (fun _ _ => not_No _)
        have hobI := hkI.own hob4 (fun _ _ => not_No _)
        have hosI := hkI.own hos4 (fun _ _ => not_No _)
        have hbxI := hkI.blk hbx4 (not_No _)
        go_wp2_with (at_builtin; go_loud (refine app_own rfl _ _ 63 rfl w.heap.size 3 (.int .i64 0) 8 Tryz.underlying63 int_infoX rfl (by decide) _ m (X.map intV) rfl honI _ 1 1 [.int .i64 (wrap64 (xf : Int))] rfl (Sl.one _ _ _) ?h1 ?hb ?hB ?_))
        case h1 => first | rfl | (intro u hu; simp at hu; subst hu; rfl)
        case hb => omega
        case hB => exact (hk04.transNo hkI).size
        intro v5 w5 hon5 hg5
        have hob5 := own_other honI hobI (by decide) hg5
        have hos5 := own_other honI hosI (by decide) hg5
        have hbx5 := blk_other honI hbxI (by decide) hg5
        have hk05 := (hk04.transNo hkI).grown hg5 (fun i hi hlt2 => by have := (honI.lt i hi).1; exact absurd hlt2 (by omega))
        obtain ⟨x0, x1, x2, x3⟩ := row4 hbx5
        have hkS : Keeps No w5 (w5.alloc (.cells #[.string xs] 9)) := (Keeps.refl No w5).alloc _
        have honS := hkS.own hon5 (fun _ _ => not_No _)
        have hobS := hkS.own hob5 (fun _ _ => not_No _)
        have hosS := hkS.own hos5 (fun _ _ => not_No _)
        clear honI hobI hosI hbxI hon4 hob4 hos4 hbx4
        go_wp2_with (at_builtin; go_loud (refine app_own rfl _ _ 64 rfl w.heap.size 9 (.string ByteArray.empty) 16 Tryz.underlying64 str_infoQ rfl (by decide) _ m (T.map txV) rfl hosS _ 1 1 [.string xs] rfl (Sl.one _ _ _) ?h1 ?hb ?hB ?_))
        case h1 => first | rfl | (intro u hu; simp at hu; subst hu; rfl)
        case hb => omega
        case hB => exact (hk05.transNo hkS).size
        intro v6 w6 hos6 hg6
        have hob6 := own_other hosS hobS (by decide) hg6
        have hon6 := own_other hosS honS (by decide) hg6
        have hk06 := (hk05.transNo hkS).grown hg6 (fun i hi hlt2 => by have := (hosS.lt i hi).1; exact absurd hlt2 (by omega))
        go_wp2_with fail
        go_roundg (n - (m + 1))
        case measure => have := Hq.out; omega
        case rel =>
          refine ⟨m + 1, b ++ P, X ++ [nv], T ++ [xs.data.toList], by omega, rfl, by go_num, Lib.hid (by rw [Htb.out]), Lib.hid (by rw [Htn.out]), Lib.hid (by rw [Htt.out]), by simp; omega, by rw [List.length_append, HXl.out]; rfl, by rw [List.length_append, HTl.out]; rfl, ?_, ?_, ?_, hk06⟩
          · rw [List.length_append, List.map_append]; exact hob6
          · rw [List.map_append, Hnv.out]; exact hon6
          · rw [List.map_append]; exact hos6
      · have hnv2 : nv = xn := by rw [hnv]; unfold numV; simp [h4]
        have e4 : (xk == 4) = false := by simp [h4]
        have Hnv := Lib.hid hnv2
        clear hnv hnv2 h4
        have hkI : Keeps No w4 (w4.alloc (.cells #[.int .i64 (xn)] 3)) := (Keeps.refl No w4).alloc _
        have honI := hkI.own hon4 (fun _ _ => not_No _)
        have hobI := hkI.own hob4 (fun _ _ => not_No _)
        have hosI := hkI.own hos4 (fun _ _ => not_No _)
        have hbxI := hkI.blk hbx4 (not_No _)
        go_wp2_with (at_builtin; go_loud (refine app_own rfl _ _ 63 rfl w.heap.size 3 (.int .i64 0) 8 Tryz.underlying63 int_infoX rfl (by decide) _ m (X.map intV) rfl honI _ 1 1 [.int .i64 (xn)] rfl (Sl.one _ _ _) ?h1 ?hb ?hB ?_))
        case h1 => first | rfl | (intro u hu; simp at hu; subst hu; rfl)
        case hb => omega
        case hB => exact (hk04.transNo hkI).size
        intro v5 w5 hon5 hg5
        have hob5 := own_other honI hobI (by decide) hg5
        have hos5 := own_other honI hosI (by decide) hg5
        have hbx5 := blk_other honI hbxI (by decide) hg5
        have hk05 := (hk04.transNo hkI).grown hg5 (fun i hi hlt2 => by have := (honI.lt i hi).1; exact absurd hlt2 (by omega))
        obtain ⟨x0, x1, x2, x3⟩ := row4 hbx5
        have hkS : Keeps No w5 (w5.alloc (.cells #[.string xs] 9)) := (Keeps.refl No w5).alloc _
        have honS := hkS.own hon5 (fun _ _ => not_No _)
        have hobS := hkS.own hob5 (fun _ _ => not_No _)
        have hosS := hkS.own hos5 (fun _ _ => not_No _)
        clear honI hobI hosI hbxI hon4 hob4 hos4 hbx4
        go_wp2_with (at_builtin; go_loud (refine app_own rfl _ _ 64 rfl w.heap.size 9 (.string ByteArray.empty) 16 Tryz.underlying64 str_infoQ rfl (by decide) _ m (T.map txV) rfl hosS _ 1 1 [.string xs] rfl (Sl.one _ _ _) ?h1 ?hb ?hB ?_))
        case h1 => first | rfl | (intro u hu; simp at hu; subst hu; rfl)
        case hb => omega
        case hB => exact (hk05.transNo hkS).size
        intro v6 w6 hos6 hg6
        have hob6 := own_other hosS hobS (by decide) hg6
        have hon6 := own_other hosS honS (by decide) hg6
        have hk06 := (hk05.transNo hkS).grown hg6 (fun i hi hlt2 => by have := (hosS.lt i hi).1; exact absurd hlt2 (by omega))
        go_wp2_with fail
        go_roundg (n - (m + 1))
        case measure => have := Hq.out; omega
        case rel =>
          refine ⟨m + 1, b ++ P, X ++ [nv], T ++ [xs.data.toList], by omega, rfl, by go_num, Lib.hid (by rw [Htb.out]), Lib.hid (by rw [Htn.out]), Lib.hid (by rw [Htt.out]), by simp; omega, by rw [List.length_append, HXl.out]; rfl, by rw [List.length_append, HTl.out]; rfl, ?_, ?_, ?_, hk06⟩
          · rw [List.length_append, List.map_append]; exact hob6
          · rw [List.map_append, Hnv.out]; exact hon6
          · rw [List.map_append]; exact hos6
    · obtain rfl : m = n := by omega
      have ht : F.take m = F := List.take_of_length_le (by rw [Hlen.out]; exact Nat.le_refl _)
      have hbF : b = plainC F := by rw [Hb.out, ht]
      have hXF : X = numsC F := by rw [HX.out, ht]
      have hTF : T = txtsC F := by rw [HT.out, ht]
      subst hbF hXF hTF
      clear Hb HX HT ht
      obtain ⟨ab, cb, rfl, hsb, _⟩ := Sl.ofOwn hob
      obtain ⟨an, cn, rfl, hsn, _⟩ := Sl.ofOwn hon
      obtain ⟨as2, cs2, rfl, hss, _⟩ := Sl.ofOwn hos
      clear hob hon hos
      match cd, hcd with
      | 0, _ =>
        go_wp2_with fail
        go_ret2
        exact .inr ⟨plainC F, _, _, rfl, rfl, hsb, hkr⟩
      | 1, _ =>
        by_cases h3 : k = 3
        · subst h3
          go_wp2_with fail
          go_ret2
          exact .inl ⟨rfl, rfl, hkr⟩
        · have e3 : (k != 3) = true := by simp [h3]
          have H3 := Lib.hid h3
          clear h3
          go_wp2_with fail
          refine (refRPut_any an m cn (numsC F) _ hsn hnw (by omega)).mono ?_
          rintro e w5 ⟨a5, m5, c5, rfl, hs5, _, hk5⟩
          have hl5 : (putRuns (numsC F)).length = m5 := by simpa using hs5.len
          subst hl5
          go_wp2_with fail
          go_ret2
          exact .inr ⟨putRuns (numsC F), _, _, by unfold restC; rw [if_neg (by decide), if_pos rfl, if_neg H3.out], rfl, hs5, hkr.transNo hk5⟩
      | 2, _ =>
        by_cases h3 : k ≤ 2
        · have H3 := Lib.hid h3
          go_wp2_with fail
          refine (rbput_any an m cn (numsC F) _ hsn hni (by omega)).mono ?_
          rintro e w5 ⟨a5, m5, c5, rfl, hs5, _, hk5⟩
          have hl5 : (bitsPut (numsC F)).length = m5 := by simpa using hs5.len
          subst hl5
          go_wp2_with fail
          go_ret2
          exact .inr ⟨bitsPut (numsC F), _, _, by unfold restC; rw [if_neg (by decide), if_neg (by decide), if_pos rfl, if_pos (by have := H3.out; omega)], rfl, hs5, hkr.transNo hk5⟩
        · have H3 := Lib.hid h3
          go_wp2_with fail
          go_ret2
          exact .inl ⟨by unfold restC; rw [if_neg (by decide), if_neg (by decide), if_pos rfl, if_neg (by have := H3.out; omega)], rfl, hkr⟩
      | 3, _ =>
        by_cases h3 : k = 3
        · subst h3
          go_wp2_with fail
          refine (rput13_any as2 m cs2 (txtsC F) _ hss (by omega) hts).mono ?_
          rintro e w5 ⟨v5, rfl, hown5, hk5, _⟩
          obtain ⟨a5, c5, rfl, hs5, _⟩ := Sl.ofOwn hown5
          go_wp2_with fail
          go_ret2
          exact .inr ⟨dputL (txtsC F), _, _, rfl, rfl, hs5, hkr.transNo hk5⟩
        · have e3 : (k == 3) = false := by simp [h3]
          have H3 := Lib.hid h3
          clear h3
          go_wp2_with fail
          go_ret2
          exact .inl ⟨by unfold restC; rw [if_neg (by decide), if_neg (by decide), if_neg (by decide), if_pos rfl, if_neg H3.out], rfl, hkr⟩

set_option maxHeartbeats 8000000 in
theorem rcolput_any (k : Int) (a : Option Addr) (n c : Nat) (L : List Va) (w : World) (hs : SlK w 4 a n c (L.map Va.cells)) (hL : ∀ v ∈ L, v.wf) (hright : rightC k L = true) :
    Calls Tryz.prog 21 #[.int .i64 k, .slice a n c] w fun e w' => ∃ v, e = .returned v ∧ w'.ownsRow w.heap.size 5 1 v (colPut k L).length ((colPut k L).map byteV) ∧ Keeps No w w' := by
  have hlen : L.length = n := by simpa using hs.len
  have hn : n ≤ 256 := by rw [← hlen]; exact (rightC_iff.1 hright).1.2.2
  have hF := fu_of hright hL
  have hk14 := hF.k1
  have hbl := bestC_len hright hL
  have hbest := (bestC_ok k L).1
  have Hlen := Lib.hid hlen
  have HF := Lib.hid hF
  obtain ⟨RR, hRR⟩ : ∃ RR, RR = restC k (fullC L) := ⟨_, rfl⟩
  rw [← hRR] at hbest
  have hzero : RR 0 = some (plainC (fullC L)) := by rw [hRR]; rfl
  have HRR := Lib.hid hRR
  have Hbest := Lib.hid hbest
  have Hzero := Lib.hid hzero
  clear hlen hF hRR hbest hzero
  have hkE : Keeps No w (w.alloc (.cells #[] 5)) := (Keeps.refl No w).alloc _
  go_enter Tryz.func21, Tryz.ntmps21
  go_wp2_with fail
  go_loopg [7, 5, 6] 4 (fun q i bv cv wr => ∃ (m : Nat), m ≤ 4 ∧ q = 4 - m ∧ i = .int .i64 (m : Int) ∧ Keeps No w wr ∧ ((m = 0 ∧ cv = .int .i64 (-1)) ∨ (0 < m ∧ ∃ (ab : Option Addr) (cb : Nat) (B : List UInt8), cv = .int .i64 (codeTo RR m : Nat) ∧ bv = .slice ab B.length cb ∧ Sl wr ab B.length cb (B.map byteV) ∧ Hid (RR (codeTo RR m) = some B))))
  case atStart => exact ⟨0, Nat.zero_le _, rfl, rfl, hkE, .inl ⟨rfl, rfl⟩⟩
  case round =>
    obtain ⟨m, hm, hq, rfl, hkr, hst⟩ := hrel
    have Hq := Lib.hid hq
    clear hq
    have hsr := hs.kept hkr
    have hsucc := codeTo_succ RR m
    have Hsucc := Lib.hid hsucc
    clear hsucc
    by_cases hlt : m < 4
    · have hmi : (m : Int) < 4 := by omega
      rcases hst with ⟨h0, rfl⟩ | ⟨hpos, ab, cb, B, rfl, rfl, hsB, HB⟩
      · have H0 := Lib.hid h0
        clear h0
        go_wp2_with fail
        refine (rfull_any a n c L _ hsr (by omega)).mono ?_
        rintro e w2 ⟨v2, rfl, hown2, hk2⟩
        obtain ⟨a2, c2, rfl, hs2, _⟩ := SlK.ofOwn (k := 4) (by decide) (vals_wide (fullC L)) hown2
        go_wp2_with fail
        refine (rrest_any k m hlt a2 _ c2 (fullC L) _ hs2 HF.out).mono ?_
        rintro e w3 hr3
        have e0 : restC k (fullC L) m = some (plainC (fullC L)) := by rw [H0.out]; rfl
        rw [e0] at hr3
        rcases hr3 with ⟨hr, _⟩ | ⟨b3, a3, c3, hr, rfl, hs3, hk3⟩
        · cases hr
        injection hr with hr
        have Hr := Lib.hid hr
        have hkw := (hkr.transNo hk2).transNo hk3
        clear hr e0 hown2 hs2 hk2 hk3
        go_wp2_with fail
        go_roundg (4 - (m + 1))
        case measure => have := Hq.out; omega
        case rel =>
          have hz : codeTo RR (m + 1) = 0 := by
            rw [Hsucc.out, H0.out]
            unfold stepC codeTo
            simp [Hzero.out]
          refine ⟨m + 1, by omega, rfl, by go_num, hkw, .inr ⟨by omega, a3, c3, b3, ?_, rfl, hs3, Lib.hid ?_⟩⟩
          · rw [hz, H0.out]
          · rw [hz, Hzero.out, ← Hr.out]
      · obtain ⟨C, hC⟩ : ∃ C, C = codeTo RR m := ⟨_, rfl⟩
        rw [← hC] at HB Hsucc ⊢
        have hC4 : C < 4 := by rw [hC]; exact codeTo_lt RR m hm
        have hci : ((C : Int) < 0) = False := by simp
        clear hC
        go_wp2_with fail
        refine (rfull_any a n c L _ hsr (by omega)).mono ?_
        rintro e w2 ⟨v2, rfl, hown2, hk2⟩
        obtain ⟨a2, c2, rfl, hs2, _⟩ := SlK.ofOwn (k := 4) (by decide) (vals_wide (fullC L)) hown2
        go_wp2_with fail
        refine (rrest_any k m hlt a2 _ c2 (fullC L) _ hs2 HF.out).mono ?_
        rintro e w3 hr3
        rw [← HRR.out] at hr3
        rcases hr3 with ⟨hr, rfl, hk3⟩ | ⟨b3, a3, c3, hr, rfl, hs3, hk3⟩
        · have hz : stepC RR C m = C := by unfold stepC; rw [hr]
          have Hz := Lib.hid hz
          have hkw := (hkr.transNo hk2).transNo hk3
          have hsB3 := hsB.kept (hk2.transNo hk3)
          clear hz hr hown2 hs2 hk2 hk3
          go_wp2_with fail
          go_roundg (4 - (m + 1))
          case measure => have := Hq.out; omega
          case rel => exact ⟨m + 1, by omega, rfl, by go_num, hkw, .inr ⟨by omega, ab, cb, B, by rw [Hsucc.out, Hz.out], rfl, hsB3, Lib.hid (by rw [Hsucc.out, Hz.out, HB.out])⟩⟩
        · have hz : stepC RR C m = if b3.length < B.length then m else C := by unfold stepC; rw [hr, HB.out]; rfl
          have Hz := Lib.hid hz
          have Hr := Lib.hid hr
          have hkw := (hkr.transNo hk2).transNo hk3
          have hsB3 := hsB.kept (hk2.transNo hk3)
          clear hz hr hown2 hs2 hk2 hk3
          by_cases hbr : b3.length < B.length
          · have Hbr := Lib.hid hbr
            go_wp2_with fail
            go_roundg (4 - (m + 1))
            case measure => have := Hq.out; omega
            case rel => exact ⟨m + 1, by omega, rfl, by go_num, hkw, .inr ⟨by omega, a3, c3, b3, by rw [Hsucc.out, Hz.out, if_pos Hbr.out], rfl, hs3, Lib.hid (by rw [Hsucc.out, Hz.out, if_pos Hbr.out, Hr.out])⟩⟩
          · have Hbr := Lib.hid hbr
            go_wp2_with fail
            go_roundg (4 - (m + 1))
            case measure => have := Hq.out; omega
            case rel => exact ⟨m + 1, by omega, rfl, by go_num, hkw, .inr ⟨by omega, ab, cb, B, by rw [Hsucc.out, Hz.out, if_neg Hbr.out], rfl, hsB3, Lib.hid (by rw [Hsucc.out, Hz.out, if_neg Hbr.out, HB.out])⟩⟩
    · obtain rfl : m = 4 := by omega
      rcases hst with ⟨h0, _⟩ | ⟨hpos, ab, cb, B, rfl, rfl, hsB, HB⟩
      · cases h0
      rw [codeTo_four] at HB ⊢
      have hBb : B = bestC k L := by have := HB.out; rw [Hbest.out] at this; injection this with this; exact this.symm
      have hC4 := codeC_lt RR
      have hkb : UInt8.ofNat (codeC RR) = UInt8.ofNat (codeC (restC k (fullC L))) := by rw [HRR.out]
      have Hkb := Lib.hid hkb
      have HBb := Lib.hid hBb
      generalize hC : codeC RR = C at hC4 Hkb ⊢
      obtain ⟨W5, hW5⟩ : ∃ x, x = wr := ⟨_, rfl⟩
      subst hW5
      clear HB hBb hkb hC Hsucc hpos
      have hBl : B.length ≤ 18944 := by rw [HBb.out]; exact hbl
      go_wp2_with fail
      go_loopg [43, 10] n (fun q i bv wx => ∃ (t : Nat) (X : List Bool), t ≤ n ∧ q = n - t ∧ i = .int .i64 (t : Int) ∧ Hid (X = nullsC (L.take t)) ∧ wx.ownsRow W5.heap.size 4 1 bv t (X.map Value.bool) ∧ Keeps No W5 wx)
      case atStart => exact ⟨0, [], Nat.zero_le _, rfl, rfl, Lib.hid rfl, World.ownsRow_nil _ _ _ _, Keeps.refl _ _⟩
      case round =>
        obtain ⟨t, X, ht, hq2, rfl, HX, hown, hkx⟩ := hrel
        have Hq2 := Lib.hid hq2
        clear hq2
        have hzr := hkx.size
        by_cases hlt2 : t < n
        · have hlt' : t < L.length := by rw [Hlen.out]; exact hlt2
          have hsrx := hsr.kept hkx
          have hix := hsrx.ix (P := Tryz.prog) Tryz.underlying25 val_size hlt2 .i64
          obtain ⟨hld, _⟩ := hsrx.load (P := Tryz.prog) (ty := 32) Tryz.underlying32 rfl val_size hlt2
          rw [vget L hlt'] at hld
          obtain ⟨x, hx⟩ : ∃ x, x = L.getD t Va.zero := ⟨_, rfl⟩
          rw [← hx] at hld
          have htk : nullsC (L.take (t + 1)) = nullsC (L.take t) ++ [decide (x.k = 0)] := by
            have hg : L.getD t Va.zero = L[t] := by simp [hlt']
            rw [hx, hg]; unfold nullsC; rw [List.take_succ_eq_append_getElem hlt', List.map_append]; rfl
          have Htk := Lib.hid htk
          clear hx hsrx htk
          obtain ⟨xk, xn, xs, xf⟩ := x
          unfold Va.cells at hld
          simp only at hld Htk
          obtain ⟨r, hr⟩ : ∃ r, r = decide (xk = 0) := ⟨_, rfl⟩
          have e1 : (xk == 0) = r := by rw [hr]; by_cases h : xk = 0 <;> simp [h]
          rw [← hr] at Htk
          clear hr
          have hkB : Keeps No wr ((wr.alloc (.cells #[.int .i64 xk, .int .i64 xn, .string xs, .int .u64 (xf : Int)] 32)).alloc (.cells #[.bool r] 4)) := ((Keeps.refl No wr).alloc _).alloc _
          have hownB := hkB.own hown (fun _ _ => not_No _)
          go_wp2_with (first | (refine wpList_loadV (op := ⟨some 46, _, _, _, _, _⟩) rfl 32 (.tmp 45) rfl _ rfl _ hld ?_) | (at_builtin; go_loud (refine app_own rfl _ _ 43 rfl W5.heap.size 4 (.bool false) 1 Tryz.underlying43 bool_info14 rfl (by decide) _ t (X.map Value.bool) rfl hownB _ 1 1 [.bool r] rfl (one_in _ _ _ _) ?h1 ?hb ?hB ?_)))
          case h1 => first | rfl | (intro u hu; simp at hu; subst hu; rfl)
          case hb => omega
          case hB => first | omega | (simp; omega)
          intro v7 w7 hown7 hg7
          go_wp2_with fail
          go_roundg (n - (t + 1))
          case measure => have := Hq2.out; omega
          case rel => exact ⟨t + 1, X ++ [r], by omega, rfl, by go_num, Lib.hid (by rw [Htk.out, HX.out]), by rw [List.map_append]; exact hown7, (hkx.transNo hkB).grown hg7 (fun i hi hlt2 => by have := (hown.lt i hi).1; exact absurd hlt2 (by omega))⟩
        · obtain rfl : t = n := by omega
          have hXn : X = nullsC L := by rw [HX.out, List.take_of_length_le (by rw [Hlen.out]; exact Nat.le_refl _)]
          obtain ⟨aX, cX, rfl, hsX, _⟩ := Sl.ofOwn hown
          have HXn := Lib.hid hXn
          have hXl : X.length = t := by rw [hXn, nullsC_len, Hlen.out]
          have HXl := Lib.hid hXl
          clear hXn HX hXl
          go_wp2_with fail
          refine (refNat_any t wr (by omega)).mono ?_
          rintro e w6 ⟨v6, rfl, hown6, hk6⟩
          have hkm : k % 256 = k := by omega
          have hCm : (C : Int) % 256 = C := by omega
          have hkB : Keeps No w6 (w6.alloc (.cells #[.int .u8 k, .int .u8 (C : Int)] 5)) := (Keeps.refl No w6).alloc _
          have hownB := hkB.own hown6 (fun _ _ => not_No _)
          have h7l := nat7_len2 hn
          go_wp2_with (at_builtin; go_loud (refine app_own rfl _ _ 22 rfl wr.heap.size 5 (.int .u8 0) 1 Tryz.underlying22 byte_infoX rfl (by decide) _ (nat7 t).length ((nat7 t).map byteV) rfl hownB _ 2 2 [.int .u8 k, .int .u8 (C : Int)] rfl (Sl.lit _ #[.int .u8 k, .int .u8 (C : Int)] 5 _ rfl 2 rfl (by decide)) ?h1 ?hb ?hB ?_))
          case h1 => intro u hu; simp at hu; rcases hu with rfl | rfl <;> rfl
          case hb => omega
          case hB => have := hk6.size; simp; omega
          intro v8 w8 hown8 hg8
          have hk58 : Keeps No wr w8 := (hk6.transNo hkB).grown hg8 (fun i hi hlt2 => by have := (hown6.lt i hi).1; omega)
          have e8 : (nat7 t).map byteV ++ [.int .u8 k, .int .u8 (C : Int)] = (nat7 t ++ [UInt8.ofNat k.toNat, UInt8.ofNat C]).map byteV := by
            rw [List.map_append]
            simp only [List.map_cons, List.map_nil, byteV]
            rw [kind_byte hk14, ofNat_toNat (show C < 256 by omega)]
          rw [e8] at hown8
          have hsX8 := hsX.kept hk58
          have hsB8 := hsB.kept (hkx.transNo hk58)
          go_wp2_with fail
          refine (refPut_any aX t cX X w8 hsX8 (by omega)).mono ?_
          rintro e w9 ⟨v9, rfl, hown9, hk9⟩
          rw [refPut_eq, HXl.out] at hown9
          obtain ⟨a9, c9, rfl, hs9, _⟩ := Sl.ofOwn hown9
          have hp9 : (putTo X t).length ≤ 32 := by rw [putTo_length, HXl.out]; omega
          have hown89 := hk9.own hown8 (fun _ _ => not_No _)
          have hk89 := hk58.transNo hk9
          go_wp2_with (at_builtin; go_loud (refine app_own rfl _ _ 22 rfl wr.heap.size 5 (.int .u8 0) 1 Tryz.underlying22 byte_infoX rfl (by decide) _ ((nat7 t).length + 2) ((nat7 t ++ [UInt8.ofNat k.toNat, UInt8.ofNat C]).map byteV) rfl hown89 a9 (putTo X t).length c9 ((putTo X t).map byteV) rfl hs9 ?h1 ?hb ?hB ?_))
          case h1 => exact byteV_one _
          case hb => omega
          case hB => exact hk89.size
          intro v10 w10 hown10 hg10
          have hk90 : Keeps No wr w10 := hk89.grown hg10 (fun i hi hlt2 => by have := (hown89.lt i hi).1; omega)
          have hsB10 := hsB.kept (hkx.transNo hk90)
          go_wp2_with (at_builtin; go_loud (refine app_own rfl _ _ 22 rfl wr.heap.size 5 (.int .u8 0) 1 Tryz.underlying22 byte_infoX rfl (by decide) _ ((nat7 t).length + 2 + (putTo X t).length) _ rfl hown10 ab B.length cb (B.map byteV) rfl hsB10 ?h1 ?hb ?hB ?_))
          case h1 => exact byteV_one _
          case hb => omega
          case hB => exact hk90.size
          intro v11 w11 hown11 hg11
          have hk011 : Keeps No wr w11 := hk90.grown hg11 (fun i hi hlt2 => by have := (hown10.lt i hi).1; omega)
          go_wp2_with fail
          go_ret
          have hall := (hkr.transNo hkx)
          have hcat : nat7 t ++ [UInt8.ofNat k.toNat, UInt8.ofNat C] ++ putTo X t ++ B = colPut k L := by
            unfold colPut headC
            rw [← Hkb.out, ← HXn.out, HXl.out, Hlen.out, HBb.out]
          have hcl : (nat7 t).length + 2 + (putTo X t).length + B.length = (colPut k L).length := by rw [← hcat]; simp; omega
          rw [hcl] at hown11
          refine ⟨_, rfl, own_le (base := wr.heap.size) ?_ hall.size, hall.transNo hk011⟩
          rw [show (colPut k L).map byteV = (nat7 t ++ [UInt8.ofNat k.toNat, UInt8.ofNat C] ++ putTo X t ++ B).map byteV by rw [hcat]]
          simp only [List.map_append, List.map_cons, List.map_nil, List.append_assoc, List.cons_append, List.nil_append] at hown11 ⊢
          exact hown11
end Go.Proofs.YthbipcjgpocpaaaGreat
