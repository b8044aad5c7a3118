/- The walks of package vault; what a vault is. -/
import Derived.Test.YthimnkmoeonheaaDoorMem
import Derived.Test.YthimnkmoeonheaaDoorBytes
import Derived.Test.YthimnkmoeonheaaDoorOrd
import Derived.Lib.MinMax
namespace Go.Proofs.YthimnkmoeonheaaDoor
open Go.RowKit
set_option linter.unusedSimpArgs false
set_option linter.unusedVariables false
set_option maxRecDepth 100000

/-- An int of Go. -/
abbrev Z64 := {n : Int // (Lit.int .i64 n).wf = true}
abbrev K3 := Z64 × Z64 × Z64
def keyCells (k : K3) : List Value := [.int .i64 k.1.1, .int .i64 k.2.1.1, .int .i64 k.2.2.1]
def keyLit (k : K3) : Lit := .string (keyBytes [.int .i64 k.1.1, .int .i64 k.2.1.1, .int .i64 k.2.2.1])

theorem laidOutV : laidOutB Tryd.prog = true := by kernel_rfl
theorem keyRow : (23 : TypeId) < Tryd.prog.types.size := of_decide_eq_true (by kernel_rfl)
theorem keyWide : (match Tryd.prog.underlying 23 with | some (.array _ _) | some (.struct _) => true | _ => false) = true := by rw [Tryd.underlying23]
theorem keyLaw : WideMaps.KeyLaw Tryd.prog 23 := deep_law_laid laidOutV (m := 2) (by omega) keyRow (by kernel_rfl) keyWide
theorem keyed : Maps.Keyed Tryd.prog 23 := Maps.Keyed.of_law keyLaw
theorem keyTypeOk : Tryd.prog.keyType 23 = true := by kernel_rfl
theorem typesSucc : ∃ q, Tryd.prog.types.size + 1 = q + 2 := ⟨Tryd.prog.types.size - 1, by have h : (23 : Nat) < Tryd.prog.types.size := keyRow; omega⟩
theorem cellsKey : Tryd.prog.cellsOf 23 = 3 := by kernel_rfl
theorem cellsInt : Tryd.prog.cellsOf 3 = 1 := by kernel_rfl

theorem keyOf_key (k : K3) : keyOf Tryd.prog 23 (.agg (keyCells k).toArray) = some (keyLit k) := by
  have h1 : (Value.agg (keyCells k).toArray).formed Tryd.prog 23 = true := by simp [Value.formed, Tryd.underlying23, cellsKey, keyCells]
  unfold keyOf
  rw [Tryd.underlying23]
  simp only [keyTypeOk, h1, Bool.and_self, if_true]
  obtain ⟨q, hq⟩ := typesSucc
  rw [hq]
  have w0 := k.1.2
  have w1 := k.2.1.2
  have w2 := k.2.2.2
  simp [Program.keyLits, Tryd.underlying23, Tryd.underlying3, cellsKey, cellsInt, Value.cells, keyCells, w0, w1, w2, keyLit]
theorem keyLit_inj {a b : K3} (h : keyLit a = keyLit b) : a = b := by
  have h1 := keyOf_key a
  rw [h] at h1
  have := keyLaw.inj h1 (keyOf_key b)
  have h2 : (keyCells a) = (keyCells b) := by simpa using this
  obtain ⟨⟨a0, p0⟩, ⟨a1, p1⟩, ⟨a2, p2⟩⟩ := a
  obtain ⟨⟨b0, q0⟩, ⟨b1, q1⟩, ⟨b2, q2⟩⟩ := b
  simp [keyCells] at h2
  obtain ⟨rfl, rfl, rfl⟩ := h2
  rfl

/-- The map at block m holds true at the keys of G. -/
def GoneM (w : World) (m : Nat) (G : List K3) : Prop :=
  ∃ D : DataW Unit, w.ownsMap Tryd.prog 23 (plainElem Tryd.prog 4) m G.length D ∧ Maps.IsMap D ∧ ∀ k : K3, D.atKey (keyLit k) (.lit (.bool false)) = .lit (.bool (decide (k ∈ G)))

theorem GoneM.lt {w : World} {m : Nat} {G : List K3} (h : GoneM w m G) : m < w.heap.size := by obtain ⟨D, h, _⟩ := h; exact h.lt
theorem GoneM.keep {w w' : World} {m : Nat} {G : List K3} {S : Nat → Prop} (h : GoneM w m G) (k : Keeps S w w') (hm : ¬ S m) : GoneM w' m G := by
  have hlt := h.lt
  obtain ⟨D, h, h1, h2⟩ := h
  refine ⟨D, ?_, h1, h2⟩
  obtain ⟨es, clock, hb, F, hs, hD⟩ := h
  exact ⟨es, clock, (k.block m hlt hm).trans hb, F, hs, hD⟩
theorem GoneM.kept {w w' : World} {m : Nat} {G : List K3} (h : GoneM w m G) (k : Keeps No w w') : GoneM w' m G := h.keep k (not_No _)
theorem zeroBool (w : World) : (zeroValue 4).run Tryd.prog w = .ok (.bool false) w := by kernel_rfl
theorem plainBool_inv {v : Value} {x : Bool} {ps : List MemPlace} (h : plainElem (H := Unit) Tryd.prog 4 v = some (.lit (.bool x), ps)) : v = .bool x := by
  unfold plainElem at h
  rw [Tryd.underlying4] at h
  cases v <;> simp at h
  rw [h.1]
theorem GoneM.look {w : World} {m : Nat} {G : List K3} (h : GoneM w m G) (k : K3) :
    (Instr.lookup 101 (.map (some m)) (.agg (keyCells k).toArray) false).run Tryd.prog w = .ok (.bool (decide (k ∈ G))) w := by
  obtain ⟨D, h, h1, h2⟩ := h
  obtain ⟨v, ps, hrun, hv⟩ := h.lookup keyed Tryd.underlying101 (zeroBool w) (plainElem_bool Tryd.underlying4 false) (keyOf_key k)
  rw [h2 k] at hv
  rw [hrun, plainBool_inv hv]
theorem GoneM.put {w : World} {m : Nat} {G : List K3} (h : GoneM w m G) (k : K3) (hG : G.length < maxLen) :
    ∃ w', (Instr.mapUpdate 101 (.map (some m)) (.agg (keyCells k).toArray) (.bool true)).run Tryd.prog w = .ok () w' ∧ GoneM w' m (G ++ [k]) ∧ Keeps (fun i => i = m) w w' := by
  obtain ⟨D, h, h1, h2⟩ := h
  obtain ⟨w', hrun, r1, r2⟩ := h.update keyed Tryd.underlying101 hG (keyOf_key k) (plainElem_bool Tryd.underlying4 true)
  refine ⟨w', hrun, ⟨_, by rw [List.length_append]; exact r1, h1.put _ _, fun k' => ?_⟩, ((Keeps.refl (fun i => i = m) w).grown r2 (fun i hi _ => by injection hi with hi; exact hi.symm))⟩
  by_cases e : k' = k
  · subst e
    rw [Maps.atKey_put_same h1 (keyed.key (keyOf_key k'))]
    simp
  · rw [Maps.atKey_put_other (fun e' => e (keyLit_inj e')), h2]
    simp [e]
theorem GoneM.made (w : World) : GoneM (w.alloc (.map #[] 0)) w.heap.size [] :=
  ⟨_, World.ownsMap_made _ _ _ _, Maps.isMap_empty, fun k => by simp; rfl⟩

/-- What was sealed: the key, what stands beside it, where the bytes lie, the bytes. -/
structure Ent where
  k : K3
  bs : ByteArray
  a : Option Addr
  n : Nat
  c : Nat
  p : List UInt8
def Ent.cells (e : Ent) : List Value := keyCells e.k ++ [.string e.bs, .slice e.a e.n e.c]
theorem Ent.cells_len (e : Ent) : e.cells.length = 5 := rfl
def Ent.here (e : Ent) (w : World) (O : Nat → Prop) : Prop := Sl w e.a e.n e.c (e.p.map byteV) ∧ (0 < e.n → ¬ O (e.a.getD default).block) ∧ e.n ≤ 65536

/-- The blocks that a vault writes. -/
def VO (b m : Nat) (v : Value) : Nat → Prop := fun i => i = b ∨ i = m ∨ v.ownBlock = some i
/-- The vault at block b. -/
def VM (w : World) (b m : Nat) (v : Value) (L : List Ent) (G : List K3) : Prop :=
  w.heap[b]? = some (.cells #[v, .map (some m)] 104 (0, 0)) ∧ w.ownsRow 0 131 5 v L.length (L.map Ent.cells).flatten ∧ GoneM w m G ∧ b ≠ m ∧ v.ownBlock ≠ some b ∧ v.ownBlock ≠ some m ∧ ∀ e ∈ L, e.here w (VO b m v)

theorem VM.keep {w w' : World} {b m : Nat} {v : Value} {L : List Ent} {G : List K3} {S : Nat → Prop} (h : VM w b m v L G) (k : Keeps S w w') (hS : ∀ i, VO b m v i → ¬ S i) (hL : ∀ e ∈ L, 0 < e.n → ¬ S (e.a.getD default).block) : VM w' b m v L G := by
  obtain ⟨h1, h2, h3, h4, h5, h6, h7⟩ := h
  exact ⟨k.blk h1 (hS b (.inl rfl)), k.own h2 (fun i hi => hS i (.inr (.inr hi))), h3.keep k (hS m (.inr (.inl rfl))), h4, h5, h6, fun e he => ⟨(h7 e he).1.keep k (hL e he), (h7 e he).2⟩⟩
theorem VM.kept {w w' : World} {b m : Nat} {v : Value} {L : List Ent} {G : List K3} (h : VM w b m v L G) (k : Keeps No w w') : VM w' b m v L G := h.keep k (fun _ _ => not_No _) (fun _ _ _ => not_No _)
theorem VM.lt {w : World} {b m : Nat} {v : Value} {L : List Ent} {G : List K3} (h : VM w b m v L G) : ∀ i, VO b m v i → i < w.heap.size := by
  obtain ⟨h1, h2, h3, _⟩ := h
  rintro i (rfl | rfl | hi)
  · exact (Array.getElem?_eq_some_iff.1 h1).1
  · exact h3.lt
  · exact (h2.lt i hi).2

theorem run_min_ints3 {P : Program} (w : World) (ts : Array TypeId) (t : TypeId) (k k' k'' : IntKind) (x y z : Int) : (Builtin.min_ ts t #[.int k x, .int k' y, .int k'' z]).run P w = .ok (.int k (min (min x y) z)) w := by
  rw [run_min_int3]
  congr 2
  omega
attribute [local go_sem high] run_min_ints3

theorem wp_mapUpdate {P : Program} {w w' : World} {o : Oper} {ac : Act} {K : Act → World → Prop} {Q : Exit → Act → World → Prop} (m x v : Operand) (t : TypeId) (ho : o.op = Op.mapUpdate t m x v)
    (mv kv vv : Value) (hm : ac.eval m = mv) (hx : ac.eval x = kv) (hv : ac.eval v = vv) (hrun : (Instr.mapUpdate t mv kv vv).run P w = .ok () w') (h : K (ac.put o.dst undef) w') : Oper.wp P o ac w K Q := by
  subst hm hx hv
  unfold Oper.wp
  simp [execOp, ho, hrun, Result.andThen]
  exact h

theorem sealed_info : (Tryd.prog.info? 131).map (fun i => (i.zero, i.size, i.bytes)) = some (some (.agg #[.int .i64 0, .int .i64 0, .int .i64 0, .string ByteArray.empty, .slice none 0 0]), 5, 64) := by kernel_rfl

theorem vnew_any (w : World) :
    Calls Tryd.prog 14 #[] w fun e w' => ∃ b m, e = .returned (.pointer (some ⟨b, 0, none⟩)) ∧ VM w' b m (.slice none 0 0) [] [] ∧ w.heap.size ≤ b ∧ w.heap.size ≤ m ∧ Keeps No w w' := by
  have hmm := @run_makeMap Tryd.prog
  go_enter Tryd.func14, Tryd.ntmps14
  go_wp2_with fail
  go_ret
  have hk1 : Keeps No w (w.alloc (.map #[] 0)) := (Keeps.refl No w).alloc _
  refine ⟨w.heap.size + 1, w.heap.size, rfl, ?_, by omega, Nat.le_refl _, hk1.alloc _⟩
  refine ⟨?_, World.ownsRow_nil _ _ _ _, (GoneM.made w).kept ((Keeps.refl No _).alloc _), by omega, by simp [Value.ownBlock], by simp [Value.ownBlock], fun e he => by simp at he⟩
  have := heap_alloc_new (w.alloc (.map #[] 0)) (.cells #[.slice none 0 0, .map (some w.heap.size)] 104)
  rw [show (w.alloc (.map #[] 0)).heap.size = w.heap.size + 1 from by simp] at this
  exact this

theorem vsealed_any (b m : Nat) (v : Value) (L : List Ent) (G : List K3) (w : World) (h : VM w b m v L G) :
    Calls Tryd.prog 39 #[.pointer (some ⟨b, 0, none⟩)] w fun e w' => e = .returned (.int .i64 (L.length : Int)) ∧ w = w' := by
  obtain ⟨h1, h2, h3, h4, h5, h6, h7⟩ := h
  obtain ⟨a, c, rfl, hs, _⟩ := SlK.ofOwn (by decide) (by intro x hx; obtain ⟨e, _, rfl⟩ := List.mem_map.1 hx; exact e.cells_len) h2
  have hc0 := cell_of_row w b 0 _ _ (0, 0) h1
  go_enter Tryd.func39, Tryd.ntmps39
  go_wp2_with fail
  go_ret
  exact ⟨rfl, rfl⟩
theorem vsealed_nil (w : World) :
    Calls Tryd.prog 39 #[.pointer none] w fun e w' => e = .returned (.int .i64 0) ∧ w = w' := by
  go_enter Tryd.func39, Tryd.ntmps39
  go_wp2_with fail
  go_ret
  exact ⟨rfl, rfl⟩

theorem vseal_nil (k : K3) (bs : ByteArray) (a : Option Addr) (n c : Nat) (w : World) :
    Calls Tryd.prog 44 #[.pointer none, .agg (keyCells k).toArray, .string bs, .slice a n c] w fun e w' => e = .returned (.tuple #[.int .u64 0, .int .i64 1]) ∧ Keeps No w w' := by
  unfold keyCells
  go_enter Tryd.func44, Tryd.ntmps44
  go_wp2_with fail
  go_ret2
  exact ⟨rfl, (Keeps.refl No w).alloc _⟩

def badKey (k : K3) : Prop := k.1.1 < 0 ∨ k.2.1.1 < 0 ∨ k.2.2.1 < 0
instance (k : K3) : Decidable (badKey k) := by unfold badKey; infer_instance

theorem vseal_bad (b : Nat) (k : K3) (bs : ByteArray) (a : Option Addr) (n c : Nat) (w : World) (h : badKey k ∨ 65536 < n) (hn : n ≤ 140737488351232) :
    Calls Tryd.prog 44 #[.pointer (some ⟨b, 0, none⟩), .agg (keyCells k).toArray, .string bs, .slice a n c] w fun e w' => e = .returned (.tuple #[.int .u64 0, .int .i64 2]) ∧ Keeps No w w' := by
  obtain ⟨⟨k0, p0⟩, ⟨k1, p1⟩, ⟨k2, p2⟩⟩ := k
  unfold keyCells badKey at *
  simp only at h ⊢
  clear p0 p1 p2
  go_enter Tryd.func44, Tryd.ntmps44
  by_cases hb : min k0 (min k1 k2) < 0
  · clear h
    have h0 : decide (min k0 (min k1 k2) < 0) = true := decide_eq_true hb
    clear hb
    go_wp2_with fail
    go_ret2
    exact ⟨rfl, (Keeps.refl No w).alloc _⟩
  · have h' : decide ((65536 : Int) < n) = true := by simp; omega
    have h0 : decide (min k0 (min k1 k2) < 0) = false := by simp; omega
    clear h hb
    go_wp2_with fail
    go_ret2
    exact ⟨rfl, (Keeps.refl No w).alloc _⟩

theorem vseal_gone (b m : Nat) (v : Value) (L : List Ent) (G : List K3) (k : K3) (bs : ByteArray) (a : Option Addr) (n c : Nat) (w : World) (hV : VM w b m v L G) (hb : ¬ badKey k) (hn : n ≤ 65536) (hG : k ∈ G) :
    Calls Tryd.prog 44 #[.pointer (some ⟨b, 0, none⟩), .agg (keyCells k).toArray, .string bs, .slice a n c] w fun e w' => e = .returned (.tuple #[.int .u64 0, .int .i64 50]) ∧ Keeps No w w' := by
  obtain ⟨h1, _, h3, _⟩ := hV
  have hbl := (Array.getElem?_eq_some_iff.1 h1).1
  have hkA : Keeps No w (w.alloc (.cells (keyCells k).toArray 23)) := (Keeps.refl No w).alloc _
  have hlook := fun wx (hx : Keeps No w wx) => (h3.kept hx).look k
  simp only [decide_eq_true hG] at hlook
  have hcv := fun wx (hx : Keeps No w wx) => cell_of_row wx b 1 _ _ (0, 0) (hx.blk h1 (not_No _))
  have hbox := heap_alloc_new w (.cells (keyCells k).toArray 23)
  clear h3 hG
  obtain ⟨⟨k0, p0⟩, ⟨k1, p1⟩, ⟨k2, p2⟩⟩ := k
  unfold keyCells badKey at *
  simp only at hb hlook hbox ⊢
  have h0 : decide (min k0 (min k1 k2) < 0) = false := by simp; omega
  have h' : decide ((65536 : Int) < n) = false := by simp; omega
  have hbb := cell_of_row _ w.heap.size 0 _ _ (0, 0) hbox
  clear hb
  go_enter Tryd.func44, Tryd.ntmps44
  go_wp2_with fail
  refine wp_region_held_drew (S := fun wx => wx.cell? ⟨b, 1, none⟩ = some (.map (some m)) ∧ wx.cell? ⟨w.heap.size, 0, none⟩ = some (.int .i64 k0) ∧ wx.cell? ⟨w.heap.size, 1, none⟩ = some (.int .i64 k1) ∧ wx.cell? ⟨w.heap.size, 2, none⟩ = some (.int .i64 k2) ∧ (Instr.lookup 101 (.map (some m)) (.agg #[.int .i64 k0, .int .i64 k1, .int .i64 k2]) false).run Tryd.prog wx = .ok (.bool true) wx) (by kernel_rfl) (⟨hcv _ hkA.drew, cell_of_row _ _ 0 _ _ (0, 0) hbox, cell_of_row _ _ 1 _ _ (0, 0) hbox, cell_of_row _ _ 2 _ _ (0, 0) hbox, hlook _ hkA.drew⟩) (fun hS => ?_)
  refine tk (i := 0) (oi := ⟨some 28, _, _, _, _, _⟩) (v := ?_) rfl (by kernel_rfl) (fun _ _ _ h => h) (by assumption) (by rfl) (fun w hSw => ?_) ?_; rotate_left; (focus (first | (go_simp; done) | (go_simp; with_reducible rfl))); simp only [Act.put, List.setIfInBounds_toArray, List.set_cons_zero, List.set_cons_succ]
  refine tk (i := 1) (oi := ⟨some 29, _, _, _, _, _⟩) (v := ?_) rfl (by kernel_rfl) (fun _ _ _ h => h) (by assumption) (by rfl) (fun w hSw => ?_) ?_; rotate_left; (focus (first | (go_simp; done) | (go_simp; with_reducible rfl))); simp only [Act.put, List.setIfInBounds_toArray, List.set_cons_zero, List.set_cons_succ]
  refine tk (i := 2) (oi := ⟨some 30, _, _, _, _, _⟩) (v := ?_) rfl (by kernel_rfl) (fun _ _ _ h => h) (by assumption) (by rfl) (fun w hSw => ?_) ?_; rotate_left; (focus (first | (go_simp; done) | (go_simp; with_reducible rfl))); simp only [Act.put, List.setIfInBounds_toArray, List.set_cons_zero, List.set_cons_succ]
  refine tk (i := 3) (oi := ⟨some 31, _, _, _, _, _⟩) (v := ?_) rfl (by kernel_rfl) (fun _ _ _ h => h) (by assumption) (by rfl) (fun w hSw => ?_) ?_; rotate_left; (focus (first | (go_simp; done) | (go_simp; with_reducible rfl))); simp only [Act.put, List.setIfInBounds_toArray, List.set_cons_zero, List.set_cons_succ]
  refine tk (i := 4) (oi := ⟨some 32, _, _, _, _, _⟩) (v := ?_) rfl (by kernel_rfl) (fun _ _ _ h => h) (by assumption) (by rfl) (fun w hSw => ?_) ?_; rotate_left; (focus (first | (go_simp; done) | (go_simp; with_reducible rfl))); simp only [Act.put, List.setIfInBounds_toArray, List.set_cons_zero, List.set_cons_succ]
  refine tk (i := 5) (oi := ⟨some 33, _, _, _, _, _⟩) (v := ?_) rfl (by kernel_rfl) (fun _ _ _ h => h) (by assumption) (by rfl) (fun w hSw => ?_) ?_; rotate_left; (focus (first | (go_simp; done) | (go_simp; with_reducible rfl))); simp only [Act.put, List.setIfInBounds_toArray, List.set_cons_zero, List.set_cons_succ]
  refine tk (i := 6) (oi := ⟨some 27, _, _, _, _, _⟩) (v := ?_) rfl (by kernel_rfl) (fun _ _ _ h => h) (by assumption) (by rfl) (fun w hSw => ?_) ?_; rotate_left; (focus (first | (go_simp; done) | (go_simp; with_reducible rfl))); simp only [Act.put, List.setIfInBounds_toArray, List.set_cons_zero, List.set_cons_succ]
  refine wpAnyH_done (by kernel_rfl) ?_ _
  clear hS
  go_wp2_with fail
  go_ret2
  exact ⟨rfl, hkA.drew⟩

/-- What Seal leaves: one entry more. -/
def SealPost (w : World) (b m : Nat) (v : Value) (L : List Ent) (G : List K3) (k : K3) (bs : ByteArray) (p : List UInt8) (w' : World) : Prop :=
  ∃ v' e', e'.k = k ∧ e'.bs = bs ∧ e'.p = p ∧ VM w' b m v' (L ++ [e']) G ∧ (∀ i, v'.ownBlock = some i → v.ownBlock = some i ∨ w.heap.size ≤ i) ∧ (0 < e'.n → w.heap.size ≤ (e'.a.getD default).block) ∧ Keeps (VO b m v) w w'

set_option maxHeartbeats 1000000 in
theorem vseal_ok (b m : Nat) (v : Value) (L : List Ent) (G : List K3) (k : K3) (bs : ByteArray) (a : Option Addr) (n c : Nat) (p : List UInt8) (w : World) (hV : VM w b m v L G) (hs : Sl w a n c (p.map byteV)) (hb : ¬ badKey k) (hn : n ≤ 65536) (hG : k ∉ G) (hL : L.length ≤ 1099511627776) :
    Calls Tryd.prog 44 #[.pointer (some ⟨b, 0, none⟩), .agg (keyCells k).toArray, .string bs, .slice a n c] w fun e w' => e = .returned (.tuple #[.int .u64 ((L.length : Int) + 1), .int .i64 0]) ∧ SealPost w b m v L G k bs p w' := by
  have hlt := hV.lt
  obtain ⟨h1, hrow, h3, h4, h5, h6, h7⟩ := hV
  have hbl := hlt b (.inl rfl)
  have hml := hlt m (.inr (.inl rfl))
  have hvl := fun i hi => hlt i (.inr (.inr hi))
  obtain ⟨⟨k0, p0⟩, ⟨k1, p1⟩, ⟨k2, p2⟩⟩ := k
  have hkA : Keeps No w (w.alloc (.cells #[.int .i64 k0, .int .i64 k1, .int .i64 k2] 23)) := (Keeps.refl No w).alloc _
  have hlook : ∀ wx, Keeps No w wx → (Instr.lookup 101 (.map (some m)) (.agg #[.int .i64 k0, .int .i64 k1, .int .i64 k2]) false).run Tryd.prog wx = .ok (.bool false) wx := fun wx hx => by
    have := (h3.kept hx).look (⟨k0, p0⟩, ⟨k1, p1⟩, ⟨k2, p2⟩)
    rw [decide_eq_false hG] at this
    exact this
  obtain ⟨av, cv, rfl, hsv, hav⟩ := SlK.ofOwn (xs := L.map Ent.cells) (by decide) (by intro x hx; obtain ⟨e, _, rfl⟩ := List.mem_map.1 hx; exact e.cells_len) hrow
  have hcv := fun wx (hx : Keeps No w wx) => cell_of_row wx b 1 _ _ (0, 0) (hx.blk h1 (not_No _))
  have hbox : (w.alloc (.cells #[.int .i64 k0, .int .i64 k1, .int .i64 k2] 23)).heap[w.heap.size]? = some (.cells #[.int .i64 k0, .int .i64 k1, .int .i64 k2] 23 (0, 0)) := heap_alloc_new w _
  have h1B := hkA.blk h1 (not_No _)
  have hnbox : (Value.slice av L.length cv).ownBlock ≠ some w.heap.size := fun e => by have := hvl _ e; omega
  have hrowB := hkA.own hrow (fun _ _ => not_No _)
  unfold badKey at hb
  simp only at hb
  have hkm : decide (min k0 (min k1 k2) < 0) = false := by simp; omega
  have h' : decide ((65536 : Int) < n) = false := by simp; omega
  clear hb hG hlt hsv
  have HS : ∀ wx, Keeps (fun i => (Value.slice av L.length cv).ownBlock = some i) (w.alloc (.cells #[.int .i64 k0, .int .i64 k1, .int .i64 k2] 23)) wx →
      (wx.cell? ⟨b, 0, none⟩ = some (.slice av L.length cv) ∧ wx.cell? ⟨w.heap.size, 0, none⟩ = some (.int .i64 k0) ∧ wx.cell? ⟨w.heap.size, 1, none⟩ = some (.int .i64 k1) ∧ wx.cell? ⟨w.heap.size, 2, none⟩ = some (.int .i64 k2)) :=
    fun wx hx => ⟨cell_of_row wx b 0 _ _ (0, 0) (hx.blk h1B h5), cell_of_row wx _ 0 _ _ (0, 0) (hx.blk hbox hnbox), cell_of_row wx _ 1 _ _ (0, 0) (hx.blk hbox hnbox), cell_of_row wx _ 2 _ _ (0, 0) (hx.blk hbox hnbox)⟩
  have HS' := Lib.hid HS
  clear HS
  unfold keyCells
  simp only
  go_enter Tryd.func44, Tryd.ntmps44
  go_wp2_with fail
  refine wp_region_held_drew (S := fun wx => wx.cell? ⟨b, 1, none⟩ = some (.map (some m)) ∧ wx.cell? ⟨w.heap.size, 0, none⟩ = some (.int .i64 k0) ∧ wx.cell? ⟨w.heap.size, 1, none⟩ = some (.int .i64 k1) ∧ wx.cell? ⟨w.heap.size, 2, none⟩ = some (.int .i64 k2) ∧ (Instr.lookup 101 (.map (some m)) (.agg #[.int .i64 k0, .int .i64 k1, .int .i64 k2]) false).run Tryd.prog wx = .ok (.bool false) wx) (by kernel_rfl) (⟨hcv _ hkA.drew, cell_of_row _ _ 0 _ _ (0, 0) hbox, cell_of_row _ _ 1 _ _ (0, 0) hbox, cell_of_row _ _ 2 _ _ (0, 0) hbox, hlook _ hkA.drew⟩) (fun hS => ?_)
  refine tk (i := 0) (oi := ⟨some 28, _, _, _, _, _⟩) (v := ?_) rfl (by kernel_rfl) (fun _ _ _ h => h) (by assumption) (by rfl) (fun w hSw => ?_) ?_; rotate_left; (focus (first | (go_simp; done) | (go_simp; with_reducible rfl))); simp only [Act.put, List.setIfInBounds_toArray, List.set_cons_zero, List.set_cons_succ]
  refine tk (i := 1) (oi := ⟨some 29, _, _, _, _, _⟩) (v := ?_) rfl (by kernel_rfl) (fun _ _ _ h => h) (by assumption) (by rfl) (fun w hSw => ?_) ?_; rotate_left; (focus (first | (go_simp; done) | (go_simp; with_reducible rfl))); simp only [Act.put, List.setIfInBounds_toArray, List.set_cons_zero, List.set_cons_succ]
  refine tk (i := 2) (oi := ⟨some 30, _, _, _, _, _⟩) (v := ?_) rfl (by kernel_rfl) (fun _ _ _ h => h) (by assumption) (by rfl) (fun w hSw => ?_) ?_; rotate_left; (focus (first | (go_simp; done) | (go_simp; with_reducible rfl))); simp only [Act.put, List.setIfInBounds_toArray, List.set_cons_zero, List.set_cons_succ]
  refine tk (i := 3) (oi := ⟨some 31, _, _, _, _, _⟩) (v := ?_) rfl (by kernel_rfl) (fun _ _ _ h => h) (by assumption) (by rfl) (fun w hSw => ?_) ?_; rotate_left; (focus (first | (go_simp; done) | (go_simp; with_reducible rfl))); simp only [Act.put, List.setIfInBounds_toArray, List.set_cons_zero, List.set_cons_succ]
  refine tk (i := 4) (oi := ⟨some 32, _, _, _, _, _⟩) (v := ?_) rfl (by kernel_rfl) (fun _ _ _ h => h) (by assumption) (by rfl) (fun w hSw => ?_) ?_; rotate_left; (focus (first | (go_simp; done) | (go_simp; with_reducible rfl))); simp only [Act.put, List.setIfInBounds_toArray, List.set_cons_zero, List.set_cons_succ]
  refine tk (i := 5) (oi := ⟨some 33, _, _, _, _, _⟩) (v := ?_) rfl (by kernel_rfl) (fun _ _ _ h => h) (by assumption) (by rfl) (fun w hSw => ?_) ?_; rotate_left; (focus (first | (go_simp; done) | (go_simp; with_reducible rfl))); simp only [Act.put, List.setIfInBounds_toArray, List.set_cons_zero, List.set_cons_succ]
  refine tk (i := 6) (oi := ⟨some 27, _, _, _, _, _⟩) (v := ?_) rfl (by kernel_rfl) (fun _ _ _ h => h) (by assumption) (by rfl) (fun w hSw => ?_) ?_; rotate_left; (focus (first | (go_simp; done) | (go_simp; with_reducible rfl))); simp only [Act.put, List.setIfInBounds_toArray, List.set_cons_zero, List.set_cons_succ]
  refine wpAnyH_done (by kernel_rfl) ?_ _
  clear hS hlook hcv
  go_wp2_with fail
  refine region_L (fun wx => wx.cell? ⟨b, 0, none⟩ = some (.slice av L.length cv) ∧ wx.cell? ⟨w.heap.size, 0, none⟩ = some (.int .i64 k0) ∧ wx.cell? ⟨w.heap.size, 1, none⟩ = some (.int .i64 k1) ∧ wx.cell? ⟨w.heap.size, 2, none⟩ = some (.int .i64 k2)) 14 (by kernel_rfl) (HS'.out _ (Keeps.refl _ _).drew.drew) (fun hS => ?_)
  refine tkL (i := 0) (oi := ⟨some 34, _, _, _, _, _⟩) (v := ?_) rfl (by kernel_rfl) (fun _ _ _ h => h) (by assumption) (by rfl) (fun w hSw => ?_) ?_; rotate_left; (focus (first | (go_simp; done) | (go_simp; with_reducible rfl))); simp only [Act.put, List.setIfInBounds_toArray, List.set_cons_zero, List.set_cons_succ]
  refine tkL (i := 1) (oi := ⟨some 35, _, _, _, _, _⟩) (v := ?_) rfl (by kernel_rfl) (fun _ _ _ h => h) (by assumption) (by rfl) (fun w hSw => ?_) ?_; rotate_left; (focus (first | (go_simp; done) | (go_simp; with_reducible rfl))); simp only [Act.put, List.setIfInBounds_toArray, List.set_cons_zero, List.set_cons_succ]
  refine tkL (i := 2) (oi := ⟨some 36, _, _, _, _, _⟩) (v := ?_) rfl (by kernel_rfl) (fun _ _ _ h => h) (by assumption) (by rfl) (fun w hSw => ?_) ?_; rotate_left; (focus (first | (go_simp; done) | (go_simp; with_reducible rfl))); simp only [Act.put, List.setIfInBounds_toArray, List.set_cons_zero, List.set_cons_succ]
  refine tkL (i := 3) (oi := ⟨some 37, _, _, _, _, _⟩) (v := ?_) rfl (by kernel_rfl) (fun _ _ _ h => h) (by assumption) (by rfl) (fun w hSw => ?_) ?_; rotate_left; (focus (first | (go_simp; done) | (go_simp; with_reducible rfl))); simp only [Act.put, List.setIfInBounds_toArray, List.set_cons_zero, List.set_cons_succ]
  refine tkL (i := 4) (oi := ⟨some 38, _, _, _, _, _⟩) (v := ?_) rfl (by kernel_rfl) (fun _ _ _ h => h) (by assumption) (by rfl) (fun w hSw => ?_) ?_; rotate_left; (focus (first | (go_simp; done) | (go_simp; with_reducible rfl))); simp only [Act.put, List.setIfInBounds_toArray, List.set_cons_zero, List.set_cons_succ]
  refine tkL (i := 5) (oi := ⟨some 39, _, _, _, _, _⟩) (v := ?_) rfl (by kernel_rfl) (fun _ _ _ h => h) (by assumption) (by rfl) (fun w hSw => ?_) ?_; rotate_left; (focus (first | (go_simp; done) | (go_simp; with_reducible rfl))); simp only [Act.put, List.setIfInBounds_toArray, List.set_cons_zero, List.set_cons_succ]
  refine tkL (i := 6) (oi := ⟨some 40, _, _, _, _, _⟩) (v := ?_) rfl (by kernel_rfl) (fun _ _ _ h => h) (by assumption) (by rfl) (fun w hSw => ?_) ?_; rotate_left; (focus (first | (go_simp; done) | (go_simp; with_reducible rfl))); simp only [Act.put, List.setIfInBounds_toArray, List.set_cons_zero, List.set_cons_succ]
  refine tkL (i := 7) (oi := ⟨some 41, _, _, _, _, _⟩) (v := ?_) rfl (by kernel_rfl) (fun _ _ _ h => h) (by assumption) (by rfl) (fun w hSw => ?_) ?_; rotate_left; (focus (first | (go_simp; done) | (go_simp; with_reducible rfl))); simp only [Act.put, List.setIfInBounds_toArray, List.set_cons_zero, List.set_cons_succ]
  refine aloneL (i := 8) (oi := ⟨some 42, _, _, _, _, _⟩) rfl (by kernel_rfl) (by rfl) (fun K hK => ?_); go_simp
  refine (cloneB_any a n c p _ ?hsc (by omega)).mono ?_
  case hsc => exact hs.kept hkA.drew.drew
  rintro e w1 ⟨v1, rfl, hown1, hk1⟩
  obtain ⟨a1, c1, rfl, hs1, hx1⟩ := Sl.ofOwn hown1
  have hkw1 : Keeps No w w1 := hkA.drew.drew.transNo hk1
  have hX1 := ((Keeps.refl (fun i => (Value.slice av L.length cv).ownBlock = some i) (w.alloc (.cells #[.int .i64 k0, .int .i64 k1, .int .i64 k2] 23))).drew.drew).transNo hk1
  have hz1 := hkw1.size
  have hzB := hX1.size
  go_simp
  refine hK.out (fun wx => wx.cell? ⟨b, 0, none⟩ = some (.slice av L.length cv) ∧ wx.cell? ⟨w.heap.size, 0, none⟩ = some (.int .i64 k0) ∧ wx.cell? ⟨w.heap.size, 1, none⟩ = some (.int .i64 k1) ∧ wx.cell? ⟨w.heap.size, 2, none⟩ = some (.int .i64 k2)) _ _ (fun _ h => h) (fun _ => HS'.out _ hX1) ?_
  clear hK K hS
  intro hS
  replace hS := hS rfl
  refine tkL (i := 9) (oi := ⟨some 43, _, _, _, _, _⟩) (v := ?_) rfl (by kernel_rfl) (fun _ _ _ h => h) (by assumption) (by rfl) (fun w hSw => ?_) ?_; rotate_left; (focus (first | (go_simp; done) | (go_simp; with_reducible rfl))); simp only [Act.put, List.setIfInBounds_toArray, List.set_cons_zero, List.set_cons_succ]
  refine aloneL (i := 10) (oi := ⟨some 44, _, _, _, _, _⟩) rfl (by kernel_rfl) (by rfl) (fun K hK => ?_); go_simp
  refine hK.out (fun wx => wx.cell? ⟨b, 0, none⟩ = some (.slice av L.length cv) ∧ wx.cell? ⟨w.heap.size, 0, none⟩ = some (.int .i64 k0) ∧ wx.cell? ⟨w.heap.size, 1, none⟩ = some (.int .i64 k1) ∧ wx.cell? ⟨w.heap.size, 2, none⟩ = some (.int .i64 k2)) _ _ (fun _ h => h) (fun _ => HS'.out _ (hX1.alloc _)) ?_
  clear hK K hS
  intro hS
  replace hS := hS rfl
  refine aloneL (i := 11) (oi := ⟨some 45, _, _, _, _, _⟩) rfl (by kernel_rfl) (by rfl) (fun K hK => ?_)
  refine wp_app_ownK (.tmp 38) (.tmp 44) 102 rfl 0 131 _ 5 64 Tryd.underlying102 sealed_info rfl (by decide) (by decide) _ L.length _ rfl ((hkw1.alloc _).own hrow (fun _ _ => not_No _)) _ 1 1 [Ent.cells ⟨(⟨k0, p0⟩, ⟨k1, p1⟩, ⟨k2, p2⟩), bs, a1, n, c1, p⟩] rfl (SlK.one w1 _ _ rfl) ?h1c (by omega) (Nat.zero_le _) ?_
  case h1c => intro u hu; simp [Ent.cells, keyCells] at hu; rcases hu with rfl | rfl | rfl | rfl | rfl <;> rfl
  intro v2 w2 hown2 hg2 hat2
  have hX2 := (hX1.alloc (.cells (Ent.cells ⟨(⟨k0, p0⟩, ⟨k1, p1⟩, ⟨k2, p2⟩), bs, a1, n, c1, p⟩).toArray 131)).grown hg2 (fun k hk _ => hk)
  have hL2 : (L.map Ent.cells).flatten ++ [Ent.cells ⟨(⟨k0, p0⟩, ⟨k1, p1⟩, ⟨k2, p2⟩), bs, a1, n, c1, p⟩].flatten = ((L ++ [(⟨(⟨k0, p0⟩, ⟨k1, p1⟩, ⟨k2, p2⟩), bs, a1, n, c1, p⟩ : Ent)]).map Ent.cells).flatten := by simp
  rw [hL2] at hown2
  obtain ⟨a2, c2, rfl, hsv2, hav2⟩ := SlK.ofOwn (by decide) (by intro x hx; obtain ⟨e, _, rfl⟩ := List.mem_map.1 hx; exact e.cells_len) hown2
  have hb2 := hX2.blk h1B h5
  have hc2 := cell_of_row w2 b 0 _ _ (0, 0) hb2
  have hf2 := frozen_of_row w2 b 0 _ _ hb2
  have hz2 := hg2.size
  have hat2' : ∀ g, (Value.slice a2 (L.length + 1) c2).ownBlock = some g → (Value.slice av L.length cv).ownBlock = some g ∨ g = w1.heap.size + 1 := fun g hg => by
    rcases hat2 g hg with h | h
    · exact .inl h
    · exact .inr (h.trans (by simp))
  have Hat := Lib.hid hat2'
  have HL2 := Lib.hid hL2
  clear hat2 hat2' hL2
  refine hK.out (fun wx => wx.cell? ⟨b, 0, none⟩ = some (.slice av L.length cv) ∧ wx.cell? ⟨w.heap.size, 0, none⟩ = some (.int .i64 k0) ∧ wx.cell? ⟨w.heap.size, 1, none⟩ = some (.int .i64 k1) ∧ wx.cell? ⟨w.heap.size, 2, none⟩ = some (.int .i64 k2)) _ _ (fun _ h => h) (fun _ => HS'.out _ hX2) ?_
  clear hK K hS
  intro hS
  replace hS := hS rfl
  refine aloneL (i := 12) (oi := ⟨some 46, _, _, _, _, _⟩) rfl (by kernel_rfl) (by rfl) (fun K hK => ?_); go_simp
  refine hK.out (fun wx => wx.cell? ⟨b, 0, none⟩ = some (.slice av L.length cv) ∧ wx.cell? ⟨w.heap.size, 0, none⟩ = some (.int .i64 k0) ∧ wx.cell? ⟨w.heap.size, 1, none⟩ = some (.int .i64 k1) ∧ wx.cell? ⟨w.heap.size, 2, none⟩ = some (.int .i64 k2)) _ _ (fun _ h => h) (fun _ => hS) ?_
  clear hK K
  intro _
  refine tkL (i := 13) (oi := ⟨some 47, _, _, _, _, _⟩) (v := ?_) rfl (by kernel_rfl) (fun _ _ _ h => h) (by assumption) (by rfl) (fun w hSw => ?_) ?_; rotate_left; (focus (first | (go_simp; done) | (go_simp; with_reducible rfl))); simp only [Act.put, List.setIfInBounds_toArray, List.set_cons_zero, List.set_cons_succ]
  refine aloneL (i := 14) (oi := ⟨none, _, _, _, _, _⟩) rfl (by kernel_rfl) (by rfl) (fun K hK => ?_); go_simp
  refine hK.out (fun wx => wx.cell? ⟨b, 0, none⟩ = some (.slice av L.length cv) ∧ wx.cell? ⟨w.heap.size, 0, none⟩ = some (.int .i64 k0) ∧ wx.cell? ⟨w.heap.size, 1, none⟩ = some (.int .i64 k1) ∧ wx.cell? ⟨w.heap.size, 2, none⟩ = some (.int .i64 k2)) _ _ (fun _ h => h) (fun e => absurd (show true = false from e) (by decide)) ?_
  clear hK K hS
  intro hS
  refine doneL (by kernel_rfl) ?_ _
  clear hS
  have hz2' : w1.heap.size + 1 ≤ w2.heap.size := by simpa using hz2
  go_wp2_with fail

  go_ret2
  have hk2 : Keeps (fun i => i = b ∨ (Value.slice av L.length cv).ownBlock = some i) w w2 := ((hkw1.no (S := fun i => i = b ∨ (Value.slice av L.length cv).ownBlock = some i)).alloc _).grown hg2 (fun k hk _ => .inr hk)
  have hkS : Keeps (fun i => i = b ∨ (Value.slice av L.length cv).ownBlock = some i) w (w2.setCell ⟨b, 0, none⟩ (.slice a2 (L.length + 1) c2)) := hk2.setCell (p := ⟨b, 0, none⟩) (fun _ => .inl rfl) _
  have hkb := Keeps.set w2 b 0 (.slice a2 (L.length + 1) c2)
  have hkT : Keeps (fun i => i = b ∨ (Value.slice av L.length cv).ownBlock = some i) w1 (w2.setCell ⟨b, 0, none⟩ (.slice a2 (L.length + 1) c2)) :=
    (((Keeps.refl (fun i => i = b ∨ (Value.slice av L.length cv).ownBlock = some i) w1).alloc _).grown hg2 (fun k hk _ => .inr hk)).setCell (p := ⟨b, 0, none⟩) (fun _ => .inl rfl) _
  have hnew : ∀ i, (Value.slice a2 (L.length + 1) c2).ownBlock = some i → (Value.slice av L.length cv).ownBlock = some i ∨ w1.heap.size < i := fun i hi => (Hat.out i hi).elim .inl (fun h => .inr (by omega))
  have hfresh : 0 < n → w.heap.size ≤ (a1.getD default).block ∧ (a1.getD default).block < w1.heap.size := fun h0 => by
    have hlt1 := hs1.lt h0
    obtain ⟨g, hg, hgb, hgl⟩ := hx1 _ (hs1.isSome h0)
    rw [hg]
    refine ⟨?_, hgl⟩
    have : w.heap.size ≤ (w.alloc (.cells #[Value.int .i64 k0, .int .i64 k1, .int .i64 k2] 23)).heap.size := hkA.size
    exact Nat.le_trans this hgb
  refine ⟨rfl, .slice a2 (L.length + 1) c2, ⟨(⟨k0, p0⟩, ⟨k1, p1⟩, ⟨k2, p2⟩), bs, a1, n, c1, p⟩, rfl, rfl, rfl, ⟨?_, ?_, ?_, h4, ?_, ?_, ?_⟩, ?_, ?_, hkS.mono fun i _ h => h.elim .inl (fun h => .inr (.inr h))⟩
  · rw [heap_setCell_same w2 b 0 _ _ _ hb2]; rfl
  · refine hkb.own ?_ (fun i hi e => ?_)
    · rw [List.length_append]; exact hown2
    · subst e
      rcases hnew i hi with h | h
      · exact h5 h
      · omega
  · refine h3.keep hkS (fun h => ?_)
    rcases h with h | h
    · exact h4 h.symm
    · exact h6 h
  · intro e
    rcases hnew b e with h | h
    · exact h5 h
    · omega
  · intro e
    rcases hnew m e with h | h
    · exact h6 h
    · omega
  · intro e he
    rcases List.mem_append.1 he with he | he
    · obtain ⟨q1, q2, q3⟩ := h7 e he
      refine ⟨q1.keep hkS (fun h0 h => q2 h0 (h.elim .inl (fun h => .inr (.inr h)))), fun h0 h => ?_, q3⟩
      have hel := q1.lt h0
      rcases h with h | h | h
      · exact q2 h0 (.inl h)
      · exact q2 h0 (.inr (.inl h))
      · rcases hnew _ h with h | h
        · exact q2 h0 (.inr (.inr h))
        · omega
    · simp at he
      subst he
      refine ⟨hs1.keep hkT (fun h0 h => ?_), fun h0 h => ?_, hn⟩
      · obtain ⟨f1, f2⟩ := hfresh h0
        rcases h with h | h
        · omega
        · have := hvl _ h; omega
      · obtain ⟨f1, f2⟩ := hfresh h0
        rcases h with h | h | h
        · simp only at h; omega
        · simp only at h; omega
        · rcases hnew _ h with h | h
          · have := hvl _ h; simp only at this; omega
          · simp only at h; omega
  · intro i hi
    rcases hnew i hi with h | h
    · exact .inl h
    · exact .inr (by omega)
  · exact fun h0 => (hfresh h0).1

theorem key_neq (a b : K3) (w : World) : (binOp .neq 23 (.agg (keyCells a).toArray) (.agg (keyCells b).toArray)).run Tryd.prog w = .ok (.bool (!decide (a = b))) w := by
  obtain ⟨⟨a0, p0⟩, ⟨a1, p1⟩, ⟨a2, p2⟩⟩ := a
  obtain ⟨⟨b0, q0⟩, ⟨b1, q1⟩, ⟨b2, q2⟩⟩ := b
  have e : ((⟨a0, p0⟩, ⟨a1, p1⟩, ⟨a2, p2⟩) : K3) = (⟨b0, q0⟩, ⟨b1, q1⟩, ⟨b2, q2⟩) ↔ a0 = b0 ∧ a1 = b1 ∧ a2 = b2 := by simp
  rw [show decide (((⟨a0, p0⟩, ⟨a1, p1⟩, ⟨a2, p2⟩) : K3) = (⟨b0, q0⟩, ⟨b1, q1⟩, ⟨b2, q2⟩)) = decide (a0 = b0 ∧ a1 = b1 ∧ a2 = b2) from decide_eq_decide.2 e]
  unfold keyCells
  go_simp
  by_cases h0 : a0 = b0 <;> by_cases h1 : a1 = b1 <;> by_cases h2 : a2 = b2 <;> simp [h0, h1, h2]
theorem key_eql (a b : K3) (w : World) : (binOp .eql 23 (.agg (keyCells a).toArray) (.agg (keyCells b).toArray)).run Tryd.prog w = .ok (.bool (decide (a = b))) w := by
  obtain ⟨⟨a0, p0⟩, ⟨a1, p1⟩, ⟨a2, p2⟩⟩ := a
  obtain ⟨⟨b0, q0⟩, ⟨b1, q1⟩, ⟨b2, q2⟩⟩ := b
  have e : ((⟨a0, p0⟩, ⟨a1, p1⟩, ⟨a2, p2⟩) : K3) = (⟨b0, q0⟩, ⟨b1, q1⟩, ⟨b2, q2⟩) ↔ a0 = b0 ∧ a1 = b1 ∧ a2 = b2 := by simp
  rw [show decide (((⟨a0, p0⟩, ⟨a1, p1⟩, ⟨a2, p2⟩) : K3) = (⟨b0, q0⟩, ⟨b1, q1⟩, ⟨b2, q2⟩)) = decide (a0 = b0 ∧ a1 = b1 ∧ a2 = b2) from decide_eq_decide.2 e]
  unfold keyCells
  go_simp
  by_cases h0 : a0 = b0 <;> by_cases h1 : a1 = b1 <;> by_cases h2 : a2 = b2 <;> simp [h0, h1, h2]

theorem vopen_nil (k : K3) (bs : ByteArray) (h : Int) (w : World) :
    Calls Tryd.prog 48 #[.pointer none, .agg (keyCells k).toArray, .string bs, .int .u64 h] w fun e w' => e = .returned (.tuple #[.slice none 0 0, .int .i64 1]) ∧ Keeps No w w' := by
  unfold keyCells
  go_enter Tryd.func48, Tryd.ntmps48
  go_wp2_with fail
  go_ret2
  exact ⟨rfl, (Keeps.refl No w).alloc _⟩

theorem vopen_gone (b m : Nat) (v : Value) (L : List Ent) (G : List K3) (k : K3) (bs : ByteArray) (h : Int) (w : World) (hV : VM w b m v L G) (hG : k ∈ G) :
    Calls Tryd.prog 48 #[.pointer (some ⟨b, 0, none⟩), .agg (keyCells k).toArray, .string bs, .int .u64 h] w fun e w' => e = .returned (.tuple #[.slice none 0 0, .int .i64 50]) ∧ Keeps No w w' := by
  obtain ⟨h1, _, h3, _⟩ := hV
  have hbl := (Array.getElem?_eq_some_iff.1 h1).1
  obtain ⟨⟨k0, p0⟩, ⟨k1, p1⟩, ⟨k2, p2⟩⟩ := k
  have hkA : Keeps No w (w.alloc (.cells #[.int .i64 k0, .int .i64 k1, .int .i64 k2] 23)) := (Keeps.refl No w).alloc _
  have hlook : ∀ wx, Keeps No w wx → (Instr.lookup 101 (.map (some m)) (.agg #[.int .i64 k0, .int .i64 k1, .int .i64 k2]) false).run Tryd.prog wx = .ok (.bool true) wx := fun wx hx => by
    have := (h3.kept hx).look (⟨k0, p0⟩, ⟨k1, p1⟩, ⟨k2, p2⟩)
    rw [decide_eq_true hG] at this
    exact this
  have hcv := fun wx (hx : Keeps No w wx) => cell_of_row wx b 1 _ _ (0, 0) (hx.blk h1 (not_No _))
  have hbox : (w.alloc (.cells #[.int .i64 k0, .int .i64 k1, .int .i64 k2] 23)).heap[w.heap.size]? = some (.cells #[.int .i64 k0, .int .i64 k1, .int .i64 k2] 23 (0, 0)) := heap_alloc_new w _
  clear h3 hG
  unfold keyCells
  simp only
  go_enter Tryd.func48, Tryd.ntmps48
  go_wp2_with fail
  refine wp_region_held_drew (S := fun wx => wx.cell? ⟨b, 1, none⟩ = some (.map (some m)) ∧ wx.cell? ⟨w.heap.size, 0, none⟩ = some (.int .i64 k0) ∧ wx.cell? ⟨w.heap.size, 1, none⟩ = some (.int .i64 k1) ∧ wx.cell? ⟨w.heap.size, 2, none⟩ = some (.int .i64 k2) ∧ (Instr.lookup 101 (.map (some m)) (.agg #[.int .i64 k0, .int .i64 k1, .int .i64 k2]) false).run Tryd.prog wx = .ok (.bool true) wx) (by kernel_rfl) (⟨hcv _ hkA.drew, cell_of_row _ _ 0 _ _ (0, 0) hbox, cell_of_row _ _ 1 _ _ (0, 0) hbox, cell_of_row _ _ 2 _ _ (0, 0) hbox, hlook _ hkA.drew⟩) (fun hS => ?_)
  refine tk (i := 0) (oi := ⟨some 15, _, _, _, _, _⟩) (v := ?_) rfl (by kernel_rfl) (fun _ _ _ h => h) (by assumption) (by rfl) (fun w hSw => ?_) ?_; rotate_left; (focus (first | (go_simp; done) | (go_simp; with_reducible rfl))); simp only [Act.put, List.setIfInBounds_toArray, List.set_cons_zero, List.set_cons_succ]
  refine tk (i := 1) (oi := ⟨some 16, _, _, _, _, _⟩) (v := ?_) rfl (by kernel_rfl) (fun _ _ _ h => h) (by assumption) (by rfl) (fun w hSw => ?_) ?_; rotate_left; (focus (first | (go_simp; done) | (go_simp; with_reducible rfl))); simp only [Act.put, List.setIfInBounds_toArray, List.set_cons_zero, List.set_cons_succ]
  refine tk (i := 2) (oi := ⟨some 17, _, _, _, _, _⟩) (v := ?_) rfl (by kernel_rfl) (fun _ _ _ h => h) (by assumption) (by rfl) (fun w hSw => ?_) ?_; rotate_left; (focus (first | (go_simp; done) | (go_simp; with_reducible rfl))); simp only [Act.put, List.setIfInBounds_toArray, List.set_cons_zero, List.set_cons_succ]
  refine tk (i := 3) (oi := ⟨some 18, _, _, _, _, _⟩) (v := ?_) rfl (by kernel_rfl) (fun _ _ _ h => h) (by assumption) (by rfl) (fun w hSw => ?_) ?_; rotate_left; (focus (first | (go_simp; done) | (go_simp; with_reducible rfl))); simp only [Act.put, List.setIfInBounds_toArray, List.set_cons_zero, List.set_cons_succ]
  refine tk (i := 4) (oi := ⟨some 19, _, _, _, _, _⟩) (v := ?_) rfl (by kernel_rfl) (fun _ _ _ h => h) (by assumption) (by rfl) (fun w hSw => ?_) ?_; rotate_left; (focus (first | (go_simp; done) | (go_simp; with_reducible rfl))); simp only [Act.put, List.setIfInBounds_toArray, List.set_cons_zero, List.set_cons_succ]
  refine tk (i := 5) (oi := ⟨some 20, _, _, _, _, _⟩) (v := ?_) rfl (by kernel_rfl) (fun _ _ _ h => h) (by assumption) (by rfl) (fun w hSw => ?_) ?_; rotate_left; (focus (first | (go_simp; done) | (go_simp; with_reducible rfl))); simp only [Act.put, List.setIfInBounds_toArray, List.set_cons_zero, List.set_cons_succ]
  refine tk (i := 6) (oi := ⟨some 14, _, _, _, _, _⟩) (v := ?_) rfl (by kernel_rfl) (fun _ _ _ h => h) (by assumption) (by rfl) (fun w hSw => ?_) ?_; rotate_left; (focus (first | (go_simp; done) | (go_simp; with_reducible rfl))); simp only [Act.put, List.setIfInBounds_toArray, List.set_cons_zero, List.set_cons_succ]
  refine wpAnyH_done (by kernel_rfl) ?_ _
  clear hS
  go_wp2_with fail
  go_ret2
  exact ⟨rfl, hkA.drew⟩

theorem bytes_beq (a b : ByteArray) : (a == b) = decide (a = b) := by
  by_cases h : a = b
  · subst h
    rw [beq_toListBytes]; simp
  · rw [decide_eq_false h]
    obtain ⟨x⟩ := a
    obtain ⟨y⟩ := b
    have hxy : x ≠ y := fun e => h (by rw [e])
    show (x == y) = false
    rw [beq_eq_false_iff_ne]; exact hxy
theorem own_down {w : World} {base base' : Nat} {e : TypeId} {size : Nat} {v : Value} {n : Nat} {xs : List Value} (hb : base' ≤ base) (h : w.ownsRow base e size v n xs) : w.ownsRow base' e size v n xs := by
  refine ⟨h.1, ?_⟩
  rcases h.2 with hn | ⟨g, cap, cur, rfl, hg, rest⟩
  · exact .inl hn
  · exact .inr ⟨g, cap, cur, rfl, Nat.le_trans hb hg, rest⟩
/-- What Open yields, a key that is there: the entry at the handle, if key and text are its own. -/
def openE (L : List Ent) (k : K3) (bs : ByteArray) (h : Nat) : Option Ent := if h = 0 then none else (L[h - 1]?).bind fun e => if e.k = k ∧ e.bs = bs then some e else none

/-- What Open leaves: nothing, or a copy of the entry's bytes. -/
def OpenPost (w w' : World) (a : Option Addr) (n c : Nat) (r : Int) : Option Ent → Prop
  | none => a = none ∧ n = 0 ∧ c = 0 ∧ r = 51
  | some x => r = 0 ∧ n = x.n ∧ Sl w' a n c (x.p.map byteV) ∧ (∀ y, a = some y → w.heap.size ≤ y.block) ∧ w'.ownsRow w.heap.size 5 1 (.slice a n c) n (x.p.map byteV)

set_option maxHeartbeats 1000000 in
theorem vopen_any (b m : Nat) (v : Value) (L : List Ent) (G : List K3) (k : K3) (bs : ByteArray) (h : Nat) (w : World) (hV : VM w b m v L G) (hG : k ∉ G) (hh : h < 18446744073709551616) (hL : L.length ≤ 1099511627776) :
    Calls Tryd.prog 48 #[.pointer (some ⟨b, 0, none⟩), .agg (keyCells k).toArray, .string bs, .int .u64 (h : Int)] w fun e w' =>
      ∃ a n c r, e = .returned (.tuple #[.slice a n c, .int .i64 r]) ∧ Keeps No w w' ∧ OpenPost w w' a n c r (openE L k bs h) := by
  have hlt := hV.lt
  obtain ⟨h1, hrow, h3, h4, h5, h6, h7⟩ := hV
  have hbl := hlt b (.inl rfl)
  have hvl := fun i hi => hlt i (.inr (.inr hi))
  obtain ⟨⟨k0, p0⟩, ⟨k1, p1⟩, ⟨k2, p2⟩⟩ := k
  have hkA : Keeps No w (w.alloc (.cells #[.int .i64 k0, .int .i64 k1, .int .i64 k2] 23)) := (Keeps.refl No w).alloc _
  have hlook : ∀ wx, Keeps No w wx → (Instr.lookup 101 (.map (some m)) (.agg #[.int .i64 k0, .int .i64 k1, .int .i64 k2]) false).run Tryd.prog wx = .ok (.bool false) wx := fun wx hx => by
    have := (h3.kept hx).look (⟨k0, p0⟩, ⟨k1, p1⟩, ⟨k2, p2⟩)
    rw [decide_eq_false hG] at this
    exact this
  obtain ⟨av, cv, rfl, hsv, hav⟩ := SlK.ofOwn (xs := L.map Ent.cells) (by decide) (by intro x hx; obtain ⟨e, _, rfl⟩ := List.mem_map.1 hx; exact e.cells_len) hrow
  have hcv := fun wx (hx : Keeps No w wx) => cell_of_row wx b 1 _ _ (0, 0) (hx.blk h1 (not_No _))
  have hcl := fun wx (hx : Keeps No w wx) => cell_of_row wx b 0 _ _ (0, 0) (hx.blk h1 (not_No _))
  have hbox : (w.alloc (.cells #[.int .i64 k0, .int .i64 k1, .int .i64 k2] 23)).heap[w.heap.size]? = some (.cells #[.int .i64 k0, .int .i64 k1, .int .i64 k2] 23 (0, 0)) := heap_alloc_new w _
  have hcl0 := hcl _ hkA.drew
  clear h3 hG
  unfold keyCells
  simp only
  go_enter Tryd.func48, Tryd.ntmps48
  go_wp2_with fail
  refine wp_region_held_drew (S := fun wx => wx.cell? ⟨b, 1, none⟩ = some (.map (some m)) ∧ wx.cell? ⟨w.heap.size, 0, none⟩ = some (.int .i64 k0) ∧ wx.cell? ⟨w.heap.size, 1, none⟩ = some (.int .i64 k1) ∧ wx.cell? ⟨w.heap.size, 2, none⟩ = some (.int .i64 k2) ∧ (Instr.lookup 101 (.map (some m)) (.agg #[.int .i64 k0, .int .i64 k1, .int .i64 k2]) false).run Tryd.prog wx = .ok (.bool false) wx) (by kernel_rfl) (⟨hcv _ hkA.drew, cell_of_row _ _ 0 _ _ (0, 0) hbox, cell_of_row _ _ 1 _ _ (0, 0) hbox, cell_of_row _ _ 2 _ _ (0, 0) hbox, hlook _ hkA.drew⟩) (fun hS => ?_)
  refine tk (i := 0) (oi := ⟨some 15, _, _, _, _, _⟩) (v := ?_) rfl (by kernel_rfl) (fun _ _ _ h => h) (by assumption) (by rfl) (fun w hSw => ?_) ?_; rotate_left; (focus (first | (go_simp; done) | (go_simp; with_reducible rfl))); simp only [Act.put, List.setIfInBounds_toArray, List.set_cons_zero, List.set_cons_succ]
  refine tk (i := 1) (oi := ⟨some 16, _, _, _, _, _⟩) (v := ?_) rfl (by kernel_rfl) (fun _ _ _ h => h) (by assumption) (by rfl) (fun w hSw => ?_) ?_; rotate_left; (focus (first | (go_simp; done) | (go_simp; with_reducible rfl))); simp only [Act.put, List.setIfInBounds_toArray, List.set_cons_zero, List.set_cons_succ]
  refine tk (i := 2) (oi := ⟨some 17, _, _, _, _, _⟩) (v := ?_) rfl (by kernel_rfl) (fun _ _ _ h => h) (by assumption) (by rfl) (fun w hSw => ?_) ?_; rotate_left; (focus (first | (go_simp; done) | (go_simp; with_reducible rfl))); simp only [Act.put, List.setIfInBounds_toArray, List.set_cons_zero, List.set_cons_succ]
  refine tk (i := 3) (oi := ⟨some 18, _, _, _, _, _⟩) (v := ?_) rfl (by kernel_rfl) (fun _ _ _ h => h) (by assumption) (by rfl) (fun w hSw => ?_) ?_; rotate_left; (focus (first | (go_simp; done) | (go_simp; with_reducible rfl))); simp only [Act.put, List.setIfInBounds_toArray, List.set_cons_zero, List.set_cons_succ]
  refine tk (i := 4) (oi := ⟨some 19, _, _, _, _, _⟩) (v := ?_) rfl (by kernel_rfl) (fun _ _ _ h => h) (by assumption) (by rfl) (fun w hSw => ?_) ?_; rotate_left; (focus (first | (go_simp; done) | (go_simp; with_reducible rfl))); simp only [Act.put, List.setIfInBounds_toArray, List.set_cons_zero, List.set_cons_succ]
  refine tk (i := 5) (oi := ⟨some 20, _, _, _, _, _⟩) (v := ?_) rfl (by kernel_rfl) (fun _ _ _ h => h) (by assumption) (by rfl) (fun w hSw => ?_) ?_; rotate_left; (focus (first | (go_simp; done) | (go_simp; with_reducible rfl))); simp only [Act.put, List.setIfInBounds_toArray, List.set_cons_zero, List.set_cons_succ]
  refine tk (i := 6) (oi := ⟨some 14, _, _, _, _, _⟩) (v := ?_) rfl (by kernel_rfl) (fun _ _ _ h => h) (by assumption) (by rfl) (fun w hSw => ?_) ?_; rotate_left; (focus (first | (go_simp; done) | (go_simp; with_reducible rfl))); simp only [Act.put, List.setIfInBounds_toArray, List.set_cons_zero, List.set_cons_succ]
  refine wpAnyH_done (by kernel_rfl) ?_ _
  clear hS hlook hcv
  by_cases e0 : h = 0
  · have hr : openE L (⟨k0, p0⟩, ⟨k1, p1⟩, ⟨k2, p2⟩) bs h = none := by unfold openE; rw [if_pos e0]
    have Hr := Lib.hid hr
    clear hr
    subst e0
    go_wp2_with fail
    go_ret2
    refine ⟨none, 0, 0, 51, rfl, hkA.drew, ?_⟩
    rw [Hr.out]
    exact ⟨rfl, rfl, rfl, rfl⟩
  have e1 : 1 ≤ h := by omega
  by_cases e2 : L.length < h
  · have hr : openE L (⟨k0, p0⟩, ⟨k1, p1⟩, ⟨k2, p2⟩) bs h = none := by unfold openE; rw [if_neg e0, List.getElem?_eq_none (by omega)]; rfl
    have Hr := Lib.hid hr
    clear hr e0
    go_wp2_with fail
    go_ret2
    refine ⟨none, 0, 0, 51, rfl, hkA.drew, ?_⟩
    rw [Hr.out]
    exact ⟨rfl, rfl, rfl, rfl⟩
  have e3 : h ≤ L.length := by omega
  have hi : h - 1 < L.length := by omega
  obtain ⟨x, hx⟩ : ∃ x, x = L[h - 1] := ⟨_, rfl⟩
  have hrE : openE L (⟨k0, p0⟩, ⟨k1, p1⟩, ⟨k2, p2⟩) bs h = if x.k = (⟨k0, p0⟩, ⟨k1, p1⟩, ⟨k2, p2⟩) ∧ x.bs = bs then some x else none := by
    unfold openE
    rw [if_neg e0, List.getElem?_eq_getElem hi, ← hx]; rfl
  have hxm : x ∈ L := by rw [hx]; exact List.getElem_mem hi
  obtain ⟨q1, q2, q3⟩ := h7 x hxm
  have hsvA := hsv.kept hkA.drew
  have hix := hsvA.ixz (P := Tryd.prog) Tryd.underlying102 (by kernel_rfl) ((h : Int) - 1) (i := h - 1) (by omega) hi .u64
  obtain ⟨hld, hlv⟩ := hsvA.load (P := Tryd.prog) (ty := 131) Tryd.underlying131 rfl (by kernel_rfl) hi
  have hxc : ((L.map Ent.cells).getD (h - 1) []).toArray = #[.int .i64 x.k.1.1, .int .i64 x.k.2.1.1, .int .i64 x.k.2.2.1, .string x.bs, .slice x.a x.n x.c] := by
    rw [hx]; simp [hi, Ent.cells, keyCells]
  rw [hxc] at hld hlv
  have hneq : ∀ wx, (binOp .neq 23 (.agg #[.int .i64 x.k.1.1, .int .i64 x.k.2.1.1, .int .i64 x.k.2.2.1]) (.agg #[.int .i64 k0, .int .i64 k1, .int .i64 k2])).run Tryd.prog wx = .ok (.bool (!decide (x.k = (⟨k0, p0⟩, ⟨k1, p1⟩, ⟨k2, p2⟩)))) wx := fun wx => key_neq x.k (⟨k0, p0⟩, ⟨k1, p1⟩, ⟨k2, p2⟩) wx
  have HrE := Lib.hid hrE
  have hq1' := fun wx (hk : Keeps No w wx) => q1.kept hk
  clear hx hxc hrE e0 e2 h7 hxm
  have c0 := cell_of_row _ _ 0 _ _ (0, 0) hbox
  have c1 := cell_of_row _ _ 1 _ _ (0, 0) hbox
  have c2 := cell_of_row _ _ 2 _ _ (0, 0) hbox
  by_cases hkk : x.k = (⟨k0, p0⟩, ⟨k1, p1⟩, ⟨k2, p2⟩)
  · rw [decide_eq_true hkk] at hneq
    by_cases hbb : x.bs = bs
    · have hr : openE L (⟨k0, p0⟩, ⟨k1, p1⟩, ⟨k2, p2⟩) bs h = some x := by rw [HrE.out, if_pos ⟨hkk, hbb⟩]
      have hbl0 : (x.bs == bs) = true := by rw [bytes_beq]; exact decide_eq_true hbb
      have hbl : (x.bs.toList == bs.toList) = true := by rw [← beq_toListBytes]; exact hbl0
      have hbl2 : (x.bs.toList != bs.toList) = false := by unfold bne; rw [hbl]; rfl
      have Hr := Lib.hid hr
      clear hr hkk HrE hbb
      go_wp2_with (refine wpList_loadV rfl 131 _ rfl _ rfl _ hld ?_)
      refine (cloneB_any x.a x.n x.c x.p _ (hq1' _ (hkA.alloc _).drew) (by omega)).mono ?_
      rintro e w1 ⟨v1, rfl, hown1, hk1⟩
      obtain ⟨a1, c1', rfl, hs1, hx1⟩ := Sl.ofOwn hown1
      have hkW := (hkA.alloc (.cells #[.int .i64 x.k.1.1, .int .i64 x.k.2.1.1, .int .i64 x.k.2.2.1, .string x.bs, .slice x.a x.n x.c] 131)).drew
      have hzW := hkW.size
      go_wp2_with fail
      go_ret2
      refine ⟨a1, x.n, c1', 0, rfl, hkW.transNo hk1, ?_⟩
      rw [Hr.out]
      refine ⟨rfl, rfl, hs1, fun y hy => ?_, own_down hzW hown1⟩
      obtain ⟨g, rfl, hgb, hgl⟩ := hx1 y hy
      exact Nat.le_trans hzW hgb
    · have hr : openE L (⟨k0, p0⟩, ⟨k1, p1⟩, ⟨k2, p2⟩) bs h = none := by rw [HrE.out, if_neg (fun h => hbb h.2)]
      have hbl0 : (x.bs == bs) = false := by rw [bytes_beq]; exact decide_eq_false hbb
      have hbl : (x.bs.toList == bs.toList) = false := by rw [← beq_toListBytes]; exact hbl0
      have hbl2 : (x.bs.toList != bs.toList) = true := by unfold bne; rw [hbl]; rfl
      have Hr := Lib.hid hr
      clear hr hkk HrE hbb
      go_wp2_with (refine wpList_loadV rfl 131 _ rfl _ rfl _ hld ?_)
      go_ret2
      refine ⟨none, 0, 0, 51, rfl, (hkA.alloc _).drew, ?_⟩
      rw [Hr.out]
      exact ⟨rfl, rfl, rfl, rfl⟩
  · rw [decide_eq_false hkk] at hneq
    have hr : openE L (⟨k0, p0⟩, ⟨k1, p1⟩, ⟨k2, p2⟩) bs h = none := by rw [HrE.out, if_neg (fun h => hkk h.1)]
    have Hr := Lib.hid hr
    clear hr hkk HrE
    go_wp2_with (refine wpList_loadV rfl 131 _ rfl _ rfl _ hld ?_)
    go_ret2
    refine ⟨none, 0, 0, 51, rfl, (hkA.alloc _).drew, ?_⟩
    rw [Hr.out]
    exact ⟨rfl, rfl, rfl, rfl⟩

theorem vdestroy_nil (k : K3) (w : World) :
    Calls Tryd.prog 33 #[.pointer none, .agg (keyCells k).toArray] w fun e w' => e = .returned (.tuple #[]) ∧ Keeps No w w' := by
  unfold keyCells
  go_enter Tryd.func33, Tryd.ntmps33
  go_wp2_with fail
  refine bodyPost_end (results_none rfl _ _ _) rfl ?_
  exact ⟨rfl, (Keeps.refl No w).alloc _⟩

theorem vdestroy_any (b m : Nat) (v : Value) (L : List Ent) (G : List K3) (k : K3) (w : World) (hV : VM w b m v L G) (hG : G.length < maxLen) :
    Calls Tryd.prog 33 #[.pointer (some ⟨b, 0, none⟩), .agg (keyCells k).toArray] w fun e w' => e = .returned (.tuple #[]) ∧ VM w' b m v L (G ++ [k]) ∧ Keeps (fun i => i = m) w w' := by
  have hlt := hV.lt
  have hV0 := hV
  obtain ⟨h1, hrow, h3, h4, h5, h6, h7⟩ := hV
  have hbl := hlt b (.inl rfl)
  have hml := hlt m (.inr (.inl rfl))
  obtain ⟨⟨k0, p0⟩, ⟨k1, p1⟩, ⟨k2, p2⟩⟩ := k
  have hkA : Keeps No w (w.alloc (.cells #[.int .i64 k0, .int .i64 k1, .int .i64 k2] 23)) := (Keeps.refl No w).alloc _
  have hput : ∃ w2, (Instr.mapUpdate 101 (.map (some m)) (.agg #[.int .i64 k0, .int .i64 k1, .int .i64 k2]) (.bool true)).run Tryd.prog (w.alloc (.cells #[.int .i64 k0, .int .i64 k1, .int .i64 k2] 23)).drew = .ok () w2 ∧ GoneM w2 m (G ++ [(⟨k0, p0⟩, ⟨k1, p1⟩, ⟨k2, p2⟩)]) ∧ Keeps (fun i => i = m) (w.alloc (.cells #[.int .i64 k0, .int .i64 k1, .int .i64 k2] 23)).drew w2 :=
    (h3.kept hkA.drew).put (⟨k0, p0⟩, ⟨k1, p1⟩, ⟨k2, p2⟩) hG
  obtain ⟨w2, hrun, hG2, hk2⟩ := hput
  have hcv := fun wx (hx : Keeps No w wx) => cell_of_row wx b 1 _ _ (0, 0) (hx.blk h1 (not_No _))
  have hbox : (w.alloc (.cells #[.int .i64 k0, .int .i64 k1, .int .i64 k2] 23)).heap[w.heap.size]? = some (.cells #[.int .i64 k0, .int .i64 k1, .int .i64 k2] 23 (0, 0)) := heap_alloc_new w _
  clear h7 h3
  unfold keyCells
  simp only
  go_enter Tryd.func33, Tryd.ntmps33
  go_wp2_with fail
  refine region_L (fun wx => wx.cell? ⟨b, 1, none⟩ = some (.map (some m)) ∧ wx.cell? ⟨w.heap.size, 0, none⟩ = some (.int .i64 k0) ∧ wx.cell? ⟨w.heap.size, 1, none⟩ = some (.int .i64 k1) ∧ wx.cell? ⟨w.heap.size, 2, none⟩ = some (.int .i64 k2)) 5 (by kernel_rfl) (⟨hcv _ hkA.drew, cell_of_row _ _ 0 _ _ (0, 0) hbox, cell_of_row _ _ 1 _ _ (0, 0) hbox, cell_of_row _ _ 2 _ _ (0, 0) hbox⟩) (fun hS => ?_)
  refine tkL (i := 0) (oi := ⟨some 6, _, _, _, _, _⟩) (v := ?_) rfl (by kernel_rfl) (fun _ _ _ h => h) (by assumption) (by rfl) (fun w hSw => ?_) ?_; rotate_left; (focus (first | (go_simp; done) | (go_simp; with_reducible rfl))); simp only [Act.put, List.setIfInBounds_toArray, List.set_cons_zero, List.set_cons_succ]
  refine tkL (i := 1) (oi := ⟨some 7, _, _, _, _, _⟩) (v := ?_) rfl (by kernel_rfl) (fun _ _ _ h => h) (by assumption) (by rfl) (fun w hSw => ?_) ?_; rotate_left; (focus (first | (go_simp; done) | (go_simp; with_reducible rfl))); simp only [Act.put, List.setIfInBounds_toArray, List.set_cons_zero, List.set_cons_succ]
  refine tkL (i := 2) (oi := ⟨some 8, _, _, _, _, _⟩) (v := ?_) rfl (by kernel_rfl) (fun _ _ _ h => h) (by assumption) (by rfl) (fun w hSw => ?_) ?_; rotate_left; (focus (first | (go_simp; done) | (go_simp; with_reducible rfl))); simp only [Act.put, List.setIfInBounds_toArray, List.set_cons_zero, List.set_cons_succ]
  refine tkL (i := 3) (oi := ⟨some 9, _, _, _, _, _⟩) (v := ?_) rfl (by kernel_rfl) (fun _ _ _ h => h) (by assumption) (by rfl) (fun w hSw => ?_) ?_; rotate_left; (focus (first | (go_simp; done) | (go_simp; with_reducible rfl))); simp only [Act.put, List.setIfInBounds_toArray, List.set_cons_zero, List.set_cons_succ]
  refine tkL (i := 4) (oi := ⟨some 10, _, _, _, _, _⟩) (v := ?_) rfl (by kernel_rfl) (fun _ _ _ h => h) (by assumption) (by rfl) (fun w hSw => ?_) ?_; rotate_left; (focus (first | (go_simp; done) | (go_simp; with_reducible rfl))); simp only [Act.put, List.setIfInBounds_toArray, List.set_cons_zero, List.set_cons_succ]
  refine aloneL (i := 5) (oi := ⟨none, _, _, _, _, _⟩) rfl (by kernel_rfl) (by rfl) (fun K hK => ?_)
  refine wp_mapUpdate _ _ _ _ rfl _ _ _ rfl rfl rfl hrun ?_
  refine hK.out (fun wx => wx.cell? ⟨b, 1, none⟩ = some (.map (some m)) ∧ wx.cell? ⟨w.heap.size, 0, none⟩ = some (.int .i64 k0) ∧ wx.cell? ⟨w.heap.size, 1, none⟩ = some (.int .i64 k1) ∧ wx.cell? ⟨w.heap.size, 2, none⟩ = some (.int .i64 k2)) _ _ (fun _ h => h) (fun e => absurd (show true = false from e) (by decide)) ?_
  clear hK K hS
  intro hS
  refine doneL (by kernel_rfl) ?_ _
  clear hS
  go_wp2_with fail
  refine bodyPost_end (results_none rfl _ _ _) rfl ?_
  have hkm : Keeps (fun i => i = m) w w2 := hkA.drew.noTrans hk2 (fun _ _ h => h)
  have hVk := hV0
  obtain ⟨g1, g2, g3, g4, g5, g6, g7⟩ := hVk
  refine ⟨rfl, ⟨hkm.blk g1 (fun h => g4 h), hkm.own g2 (fun i hi e => g6 (by rw [hi, e])), hG2, g4, g5, g6, fun e he => ⟨(g7 e he).1.keep hkm (fun h0 e' => (g7 e he).2.1 h0 (.inr (.inl e'))), (g7 e he).2⟩⟩, hkm⟩

def zeroKey : K3 := (⟨0, by decide⟩, ⟨0, by decide⟩, ⟨0, by decide⟩)
/-- Under which key. -/
def underK (L : List Ent) (h : Nat) : K3 × Bool := if h = 0 then (zeroKey, false) else match L[h - 1]? with | none => (zeroKey, false) | some e => (e.k, true)

end Go.Proofs.YthimnkmoeonheaaDoor
