/- Vaults by the set of their blocks. -/
import Derived.Test.YthimnkmoeonheaaDoorVaultA
import Derived.Test.YthimnkmoeonheaaDoorMemB
namespace Go.Proofs.YthimnkmoeonheaaDoor
open Go.RowKit
set_option linter.unusedSimpArgs false
set_option linter.unusedVariables false
set_option maxRecDepth 100000

/-- The vault at block b holds A, the keys G are gone; F: its blocks. -/
def VF (w : World) (b : Nat) (F : Nat → Prop) (A : List AE) (G : List K3) : Prop :=
  ∃ m v, VA w b m v A G (fun i => i < w.heap.size ∧ ¬ F i) ∧ ∀ i, F i → i < w.heap.size
theorem VF.lt {w : World} {b : Nat} {F : Nat → Prop} {A : List AE} {G : List K3} (h : VF w b F A G) : ∀ i, F i → i < w.heap.size := by obtain ⟨_, _, _, h⟩ := h; exact h
theorem VF.keep {w w' : World} {b : Nat} {F S : Nat → Prop} {A : List AE} {G : List K3} (h : VF w b F A G) (k : Keeps S w w') (hS : ∀ i, F i → ¬ S i) : VF w' b F A G := by
  obtain ⟨m, v, h1, h2⟩ := h
  refine ⟨m, v, (h1.freshS k (fun i hi hs => ⟨hi, fun hf => hS i hf hs⟩)).more (fun i hi hy => ?_), fun i hi => Nat.lt_of_lt_of_le (h2 i hi) k.size⟩
  rcases Nat.lt_or_ge i w.heap.size with h | h
  · exact .inl ⟨h, hy.2⟩
  · exact .inr h
theorem VF.kept {w w' : World} {b : Nat} {F : Nat → Prop} {A : List AE} {G : List K3} (h : VF w b F A G) (k : Keeps No w w') : VF w' b F A G := h.keep k fun _ _ => not_No _
theorem VF.own {w : World} {b m : Nat} {v : Value} {F : Nat → Prop} {A : List AE} {G : List K3} (h : VA w b m v A G (fun i => i < w.heap.size ∧ ¬ F i)) : ∀ i, VO b m v i → F i := fun i hi => Classical.byContradiction fun hf => h.not i hi ⟨h.lt i hi, hf⟩

theorem f_new (w : World) :
    Calls Tryd.prog 14 #[] w fun e w' => ∃ b F, e = .returned (.pointer (some ⟨b, 0, none⟩)) ∧ VF w' b F [] [] ∧ (∀ i, F i → w.heap.size ≤ i) ∧ Keeps No w w' := by
  refine (va_new w).mono ?_
  rintro e w1 ⟨b, m, rfl, h, hk⟩
  refine ⟨b, fun i => w.heap.size ≤ i ∧ i < w1.heap.size, rfl, ⟨m, _, h.more (fun i hi hy => ?_), fun i hi => hi.2⟩, fun i hi => hi.1, hk⟩
  rcases Nat.lt_or_ge i w.heap.size with h | h
  · exact h
  · exact absurd ⟨h, hi⟩ hy.2
theorem f_seal (b : Nat) (F : Nat → Prop) (A : List AE) (G : List K3) (k : K3) (bs : ByteArray) (a : Option Addr) (n c : Nat) (p : List UInt8) (w : World) (hV : VF w b F A G) (hs : Sl w a n c (p.map byteV)) (hn : n ≤ 140737488351232) (hA : A.length ≤ 1099511627776) :
    Calls Tryd.prog 44 #[.pointer (some ⟨b, 0, none⟩), .agg (keyCells k).toArray, .string bs, .slice a n c] w fun e w' =>
      e = .returned (.tuple #[.int .u64 ((sealA A G k bs p).2.1 : Int), .int .i64 (sealA A G k bs p).2.2]) ∧ ∃ F', VF w' b F' (sealA A G k bs p).1 G ∧ Step F F' w w' := by
  obtain ⟨m, v, h1, h2⟩ := hV
  refine (va_seal b m v A G _ k bs a n c p w h1 (fun i hi => hi.1) hs hn hA).mono ?_
  rintro e w1 ⟨rfl, v', r1, r2, r3⟩
  refine ⟨rfl, fun i => F i ∨ (w.heap.size ≤ i ∧ i < w1.heap.size), ⟨m, v', r1.more (fun i hi hy => ?_), fun i hi => ?_⟩, ⟨r3.mono (fun i _ h => VF.own h1 i h), fun i hi => hi.elim .inl (fun h => .inr h.1)⟩⟩
  · rcases Nat.lt_or_ge i w.heap.size with h | h
    · exact ⟨h, fun hf => hy.2 (.inl hf)⟩
    · exact absurd (.inr ⟨h, hi⟩) hy.2
  · rcases hi with h | h
    · exact Nat.lt_of_lt_of_le (h2 i h) r3.size
    · exact h.2
theorem f_open (b : Nat) (F : Nat → Prop) (A : List AE) (G : List K3) (k : K3) (bs : ByteArray) (h : Nat) (w : World) (hV : VF w b F A G) (hh : h < 18446744073709551616) (hA : A.length ≤ 1099511627776) :
    Calls Tryd.prog 48 #[.pointer (some ⟨b, 0, none⟩), .agg (keyCells k).toArray, .string bs, .int .u64 (h : Int)] w fun e w' =>
      ∃ v, e = .returned (.tuple #[v, .int .i64 (openA A G k bs h).2]) ∧ Keeps No w w' ∧ w'.ownsRow w.heap.size 5 1 v (openA A G k bs h).1.length ((openA A G k bs h).1.map byteV) := by
  obtain ⟨m, v, h1, h2⟩ := hV
  refine (va_open b m v A G _ k bs h w h1 hh hA).mono ?_
  rintro e w1 ⟨a, n, c, rfl, hk, hs, _, _, ho⟩
  have hl : (openA A G k bs h).1.length = n := by simpa using hs.len
  exact ⟨_, rfl, hk, by rw [hl]; exact ho⟩
theorem f_sealed (b : Nat) (F : Nat → Prop) (A : List AE) (G : List K3) (w : World) (hV : VF w b F A G) :
    Calls Tryd.prog 39 #[.pointer (some ⟨b, 0, none⟩)] w fun e w' => e = .returned (.int .i64 (A.length : Int)) ∧ w = w' := by
  obtain ⟨m, v, h1, h2⟩ := hV
  exact va_sealed b m v A G _ w h1
theorem f_destroy (b : Nat) (F : Nat → Prop) (A : List AE) (G : List K3) (k : K3) (w : World) (hV : VF w b F A G) (hG : G.length < maxLen) :
    Calls Tryd.prog 33 #[.pointer (some ⟨b, 0, none⟩), .agg (keyCells k).toArray] w fun e w' => e = .returned (.tuple #[]) ∧ ∃ F', VF w' b F' A (G ++ [k]) ∧ Step F F' w w' := by
  obtain ⟨m, v, h1, h2⟩ := hV
  have hown := VF.own h1
  refine (va_destroy b m v A G _ k w h1 hG).mono ?_
  rintro e w1 ⟨rfl, r1, r2⟩
  refine ⟨rfl, fun i => F i ∨ (w.heap.size ≤ i ∧ i < w1.heap.size), ⟨m, v, r1.more (fun i hi hy => ?_), fun i hi => ?_⟩, ⟨r2.mono (fun i _ h => hown i h), fun i hi => hi.elim .inl (fun h => .inr h.1)⟩⟩
  · rcases Nat.lt_or_ge i w.heap.size with h | h
    · exact ⟨h, fun hf => hy.2 (.inl hf)⟩
    · exact absurd (.inr ⟨h, hi⟩) hy.2
  · rcases hi with h | h
    · exact Nat.lt_of_lt_of_le (h2 i h) r2.size
    · exact h.2
end Go.Proofs.YthimnkmoeonheaaDoor
