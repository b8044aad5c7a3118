/- Vaults as functions on what was sealed and what is gone. -/
import Derived.Test.YthimnkmoeonheaaDoorVault
namespace Go.Proofs.YthimnkmoeonheaaDoor
open Go.RowKit
set_option linter.unusedSimpArgs false
set_option linter.unusedVariables false
set_option maxRecDepth 100000

abbrev AE := K3 × ByteArray × List UInt8
def Ent.abs (e : Ent) : AE := (e.k, e.bs, e.p)

/-- The vault at block b holds A, the keys G are gone; no block of its own is in X. -/
def VA (w : World) (b m : Nat) (v : Value) (A : List AE) (G : List K3) (X : Nat → Prop) : Prop :=
  ∃ L, VM w b m v L G ∧ L.map Ent.abs = A ∧ (∀ i, VO b m v i → ¬ X i) ∧ ∀ e ∈ L, 0 < e.n → ¬ X (e.a.getD default).block

theorem VA.keep {w w' : World} {b m : Nat} {v : Value} {A : List AE} {G : List K3} {S X : Nat → Prop} (h : VA w b m v A G X) (k : Keeps S w w') (hS : ∀ i, i < w.heap.size → S i → X i) : VA w' b m v A G X := by
  obtain ⟨L, h1, h2, h3, h4⟩ := h
  exact ⟨L, h1.keep k (fun i hi hs => h3 i hi (hS i (h1.lt i hi) hs)) (fun e he h0 hs => h4 e he h0 (hS _ ((h1.2.2.2.2.2.2 e he).1.lt h0) hs)), h2, h3, h4⟩
theorem VA.more {w : World} {b m : Nat} {v : Value} {A : List AE} {G : List K3} {X Y : Nat → Prop} (h : VA w b m v A G X) (hY : ∀ i, i < w.heap.size → Y i → X i) : VA w b m v A G Y := by
  obtain ⟨L, h1, h2, h3, h4⟩ := h
  exact ⟨L, h1, h2, fun i hi hy => h3 i hi (hY i (h1.lt i hi) hy), fun e he h0 hy => h4 e he h0 (hY _ ((h1.2.2.2.2.2.2 e he).1.lt h0) hy)⟩
theorem VA.kept {w w' : World} {b m : Nat} {v : Value} {A : List AE} {G : List K3} {X : Nat → Prop} (h : VA w b m v A G X) (k : Keeps No w w') : VA w' b m v A G X := by
  obtain ⟨L, h1, h2, h3, h4⟩ := h
  exact ⟨L, h1.kept k, h2, h3, h4⟩
/-- Blocks that were made later are not its own. -/
theorem VA.freshS {w w' : World} {b m : Nat} {v : Value} {A : List AE} {G : List K3} {S X : Nat → Prop} (h : VA w b m v A G X) (k : Keeps S w w') (hS : ∀ i, i < w.heap.size → S i → X i) : VA w' b m v A G (fun i => X i ∨ w.heap.size ≤ i) := by
  obtain ⟨L, h1, h2, h3, h4⟩ := h
  refine ⟨L, h1.keep k (fun i hi hs => h3 i hi (hS i (h1.lt i hi) hs)) (fun e he h0 hs => h4 e he h0 (hS _ ((h1.2.2.2.2.2.2 e he).1.lt h0) hs)), h2, fun i hi hx => ?_, fun e he h0 hx => ?_⟩
  · rcases hx with hx | hx
    · exact h3 i hi hx
    · have := h1.lt i hi; omega
  · rcases hx with hx | hx
    · exact h4 e he h0 hx
    · have := (h1.2.2.2.2.2.2 e he).1.lt h0; omega
theorem VA.fresh {w w' : World} {b m : Nat} {v : Value} {A : List AE} {G : List K3} {X : Nat → Prop} (h : VA w b m v A G X) (k : Keeps No w w') : VA w' b m v A G (fun i => X i ∨ w.heap.size ≤ i) := h.freshS k (fun _ _ h => h.elim)
theorem VA.lt {w : World} {b m : Nat} {v : Value} {A : List AE} {G : List K3} {X : Nat → Prop} (h : VA w b m v A G X) : ∀ i, VO b m v i → i < w.heap.size := by
  obtain ⟨L, h1, _⟩ := h
  exact h1.lt
theorem VA.not {w : World} {b m : Nat} {v : Value} {A : List AE} {G : List K3} {X : Nat → Prop} (h : VA w b m v A G X) : ∀ i, VO b m v i → ¬ X i := by
  obtain ⟨L, h1, h2, h3, _⟩ := h
  exact h3

def sealA (A : List AE) (G : List K3) (k : K3) (bs : ByteArray) (p : List UInt8) : List AE × Nat × Int :=
  if badKey k ∨ 65536 < p.length then (A, 0, 2) else if k ∈ G then (A, 0, 50) else (A ++ [(k, bs, p)], A.length + 1, 0)
def openA (A : List AE) (G : List K3) (k : K3) (bs : ByteArray) (h : Nat) : List UInt8 × Int :=
  if k ∈ G then ([], 50) else if h = 0 then ([], 51) else match A[h - 1]? with
    | none => ([], 51)
    | some e => if e.1 = k ∧ e.2.1 = bs then (e.2.2, 0) else ([], 51)
def underA (A : List AE) (h : Nat) : K3 × Bool := if h = 0 then (zeroKey, false) else match A[h - 1]? with | none => (zeroKey, false) | some e => (e.1, true)

theorem va_new (w : World) :
    Calls Tryd.prog 14 #[] w fun e w' => ∃ b m, e = .returned (.pointer (some ⟨b, 0, none⟩)) ∧ VA w' b m (.slice none 0 0) [] [] (fun i => i < w.heap.size) ∧ Keeps No w w' := by
  refine (vnew_any w).mono ?_
  rintro e w1 ⟨b, m, rfl, h1, h2, h3, h4⟩
  refine ⟨b, m, rfl, ⟨[], h1, rfl, fun i hi => ?_, fun e he => by simp at he⟩, h4⟩
  rcases hi with rfl | rfl | hi
  · omega
  · omega
  · simp [Value.ownBlock] at hi

/-- What an act leaves of a vault: it is A' now, its row the old one or new. -/
def VD (w : World) (b m : Nat) (v : Value) (A : List AE) (G : List K3) (X : Nat → Prop) (w' : World) : Prop :=
  ∃ v', VA w' b m v' A G X ∧ (∀ i, v'.ownBlock = some i → v.ownBlock = some i ∨ w.heap.size ≤ i) ∧ Keeps (VO b m v) w w'

theorem va_seal (b m : Nat) (v : Value) (A : List AE) (G : List K3) (X : Nat → Prop) (k : K3) (bs : ByteArray) (a : Option Addr) (n c : Nat) (p : List UInt8) (w : World) (hV : VA w b m v A G X) (hX : ∀ i, X i → i < w.heap.size)
    (hs : Sl w a n c (p.map byteV)) (hn : n ≤ 140737488351232) (hA : A.length ≤ 1099511627776) :
    Calls Tryd.prog 44 #[.pointer (some ⟨b, 0, none⟩), .agg (keyCells k).toArray, .string bs, .slice a n c] w fun e w' =>
      e = .returned (.tuple #[.int .u64 ((sealA A G k bs p).2.1 : Int), .int .i64 (sealA A G k bs p).2.2]) ∧ VD w b m v (sealA A G k bs p).1 G X w' := by
  obtain ⟨L, h1, h2, h3, h4⟩ := hV
  have hlen : p.length = n := by simpa using hs.len
  have hLA : L.length = A.length := by rw [← h2]; simp
  have same : ∀ w', Keeps No w w' → VD w b m v A G X w' := fun w' hk => ⟨v, ⟨L, h1.kept hk, h2, h3, h4⟩, fun i hi => .inl hi, hk.no⟩
  unfold sealA
  by_cases hb : badKey k ∨ 65536 < p.length
  · rw [if_pos hb]
    refine (vseal_bad b k bs a n c w (by rw [← hlen]; exact hb) hn).mono ?_
    rintro e w1 ⟨rfl, hk⟩
    exact ⟨rfl, same _ hk⟩
  rw [if_neg hb]
  have hb1 : ¬ badKey k := fun h => hb (.inl h)
  have hb2 : n ≤ 65536 := by have : ¬ 65536 < p.length := fun h => hb (.inr h); omega
  by_cases hG : k ∈ G
  · rw [if_pos hG]
    refine (vseal_gone b m v L G k bs a n c w h1 hb1 hb2 hG).mono ?_
    rintro e w1 ⟨rfl, hk⟩
    exact ⟨rfl, same _ hk⟩
  rw [if_neg hG]
  refine (vseal_ok b m v L G k bs a n c p w h1 hs hb1 hb2 hG (by omega)).mono ?_
  rintro e w1 ⟨rfl, v', e', r1, r2, r3, r4, r5, r6, r7⟩
  refine ⟨by rw [hLA]; rfl, v', ⟨L ++ [e'], r4, ?_, fun i hi hx => ?_, fun x hx h0 hX' => ?_⟩, r5, r7⟩
  · rw [List.map_append, h2]
    simp [Ent.abs, r1, r2, r3]
  · rcases hi with h | h | h
    · exact h3 i (.inl h) hx
    · exact h3 i (.inr (.inl h)) hx
    · rcases r5 i h with h | h
      · exact h3 i (.inr (.inr h)) hx
      · have := hX i hx; omega
  · rcases List.mem_append.1 hx with hx | hx
    · exact h4 x hx h0 hX'
    · simp at hx
      subst hx
      have := r6 h0
      have := hX _ hX'
      omega

theorem va_open (b m : Nat) (v : Value) (A : List AE) (G : List K3) (X : Nat → Prop) (k : K3) (bs : ByteArray) (h : Nat) (w : World) (hV : VA w b m v A G X) (hh : h < 18446744073709551616) (hA : A.length ≤ 1099511627776) :
    Calls Tryd.prog 48 #[.pointer (some ⟨b, 0, none⟩), .agg (keyCells k).toArray, .string bs, .int .u64 (h : Int)] w fun e w' =>
      ∃ a n c, e = .returned (.tuple #[.slice a n c, .int .i64 (openA A G k bs h).2]) ∧ Keeps No w w' ∧ Sl w' a n c ((openA A G k bs h).1.map byteV) ∧ (∀ y, a = some y → w.heap.size ≤ y.block) ∧ n ≤ 65536 ∧ w'.ownsRow w.heap.size 5 1 (.slice a n c) n ((openA A G k bs h).1.map byteV) := by
  obtain ⟨L, h1, h2, h3, h4⟩ := hV
  have hLA : L.length = A.length := by rw [← h2]; simp
  unfold openA
  by_cases hG : k ∈ G
  · rw [if_pos hG]
    refine (vopen_gone b m v L G k bs h w h1 hG).mono ?_
    rintro e w1 ⟨rfl, hk⟩
    exact ⟨none, 0, 0, rfl, hk, Sl.none _, fun y hy => by simp at hy, by omega, World.ownsRow_nil _ _ _ _⟩
  rw [if_neg hG]
  refine (vopen_any b m v L G k bs h w h1 hG hh (by omega)).mono ?_
  rintro e w1 ⟨a, n, c, r, rfl, hk, hp⟩
  unfold openE at hp
  by_cases h0 : h = 0
  · rw [if_pos h0] at hp ⊢
    obtain ⟨rfl, rfl, rfl, rfl⟩ := hp
    exact ⟨none, 0, 0, rfl, hk, Sl.none _, fun y hy => by simp at hy, by omega, World.ownsRow_nil _ _ _ _⟩
  rw [if_neg h0] at hp ⊢
  rw [← h2, List.getElem?_map]
  cases hx : L[h - 1]? with
  | none =>
    rw [hx] at hp
    obtain ⟨rfl, rfl, rfl, rfl⟩ := hp
    exact ⟨none, 0, 0, rfl, hk, Sl.none _, fun y hy => by simp at hy, by omega, World.ownsRow_nil _ _ _ _⟩
  | some x =>
    rw [hx, Option.bind_some] at hp
    simp only [Option.map_some, Ent.abs]
    by_cases hc : x.k = k ∧ x.bs = bs
    · rw [if_pos hc] at hp ⊢
      obtain ⟨rfl, rfl, hs, hf, ho⟩ := hp
      exact ⟨a, x.n, c, rfl, hk, hs, hf, (h1.2.2.2.2.2.2 x (List.mem_of_getElem? hx)).2.2, ho⟩
    · rw [if_neg hc] at hp ⊢
      obtain ⟨rfl, rfl, rfl, rfl⟩ := hp
      exact ⟨none, 0, 0, rfl, hk, Sl.none _, fun y hy => by simp at hy, by omega, World.ownsRow_nil _ _ _ _⟩

theorem va_destroy (b m : Nat) (v : Value) (A : List AE) (G : List K3) (X : Nat → Prop) (k : K3) (w : World) (hV : VA w b m v A G X) (hG : G.length < maxLen) :
    Calls Tryd.prog 33 #[.pointer (some ⟨b, 0, none⟩), .agg (keyCells k).toArray] w fun e w' => e = .returned (.tuple #[]) ∧ VA w' b m v A (G ++ [k]) X ∧ Keeps (VO b m v) w w' := by
  obtain ⟨L, h1, h2, h3, h4⟩ := hV
  refine (vdestroy_any b m v L G k w h1 hG).mono ?_
  rintro e w1 ⟨rfl, hv, hk⟩
  exact ⟨rfl, ⟨L, hv, h2, h3, h4⟩, hk.mono fun i _ h => .inr (.inl h)⟩

theorem va_sealed (b m : Nat) (v : Value) (A : List AE) (G : List K3) (X : Nat → Prop) (w : World) (hV : VA w b m v A G X) :
    Calls Tryd.prog 39 #[.pointer (some ⟨b, 0, none⟩)] w fun e w' => e = .returned (.int .i64 (A.length : Int)) ∧ w = w' := by
  obtain ⟨L, h1, h2, h3, h4⟩ := hV
  have := vsealed_any b m v L G w h1
  rw [← h2, List.length_map]
  exact this

end Go.Proofs.YthimnkmoeonheaaDoor
