/- Devices as plain data: blocks that are kept, writes that wait, calls that are left. -/
import Derived.Test.YthimnkmoeonheaaDoorBase
namespace Go.Proofs.YthimnkmoeonheaaDoor
set_option linter.unusedSimpArgs false
set_option linter.unusedVariables false

/-- A block: sixteen bytes. -/
def full (b : List UInt8) : List UInt8 := b ++ List.replicate (16 - b.length) 0
theorem full_len (b : List UInt8) (h : b.length ≤ 16) : (full b).length = 16 := by simp [full]; omega

abbrev WR := Nat × List UInt8
structure DS where
  K : List (List UInt8)
  W : List WR
  lim : Option Nat

/-- What stands on the block i: the write that came last, or d. -/
def lastW (W : List WR) (i : Nat) (d : List UInt8) : List UInt8 := W.foldl (fun b w => if w.1 = i then w.2 else b) d
theorem lastW_snoc (W : List WR) (w : WR) (i : Nat) (d : List UInt8) : lastW (W ++ [w]) i d = if w.1 = i then w.2 else lastW W i d := by
  simp [lastW, List.foldl_append]
theorem lastW_len (W : List WR) (hW : ∀ w ∈ W, w.2.length = 16) (i : Nat) (d : List UInt8) (hd : d.length = 16) : (lastW W i d).length = 16 := by
  induction W generalizing d with
  | nil => exact hd
  | cons w t ih =>
    show (lastW t i (if w.1 = i then w.2 else d)).length = 16
    refine ih (fun x hx => hW x (by simp [hx])) _ ?_
    split
    · exact hW w (by simp)
    · exact hd
theorem lastW_not (W : List WR) (i : Nat) (d : List UInt8) (h : ∀ w ∈ W, w.1 ≠ i) : lastW W i d = d := by
  induction W generalizing d with
  | nil => rfl
  | cons w t ih =>
    show lastW t i (if w.1 = i then w.2 else d) = d
    rw [if_neg (h w (by simp)), ih d (fun x hx => h x (by simp [hx]))]

def keepW (K : List (List UInt8)) (W : List WR) : List (List UInt8) := W.foldl (fun K w => K.set w.1 w.2) K
theorem keepW_snoc (K : List (List UInt8)) (W : List WR) (w : WR) : keepW K (W ++ [w]) = (keepW K W).set w.1 w.2 := by simp [keepW, List.foldl_append]
theorem keepW_len (K : List (List UInt8)) (W : List WR) : (keepW K W).length = K.length := by
  induction W generalizing K with
  | nil => rfl
  | cons w t ih => show (keepW (K.set w.1 w.2) t).length = _; rw [ih, List.length_set]
theorem keepW_wide (K : List (List UInt8)) (W : List WR) (hK : ∀ x ∈ K, x.length = 16) (hW : ∀ w ∈ W, w.2.length = 16) : ∀ x ∈ keepW K W, x.length = 16 := by
  induction W generalizing K with
  | nil => exact hK
  | cons w t ih =>
    refine ih (K.set w.1 w.2) (fun x hx => ?_) (fun x hx => hW x (by simp [hx]))
    rcases List.mem_or_eq_of_mem_set hx with h | h
    · exact hK x h
    · rw [h]; exact hW w (by simp)
/-- What a sync leaves on a block is what is read ahead of it. -/
theorem keepW_get (K : List (List UInt8)) (W : List WR) (i : Nat) (hi : i < K.length) : (keepW K W).getD i [] = lastW W i (K.getD i []) := by
  induction W generalizing K with
  | nil => rfl
  | cons w t ih =>
    show (keepW (K.set w.1 w.2) t).getD i [] = lastW t i (if w.1 = i then w.2 else K.getD i [])
    rw [ih _ (by rw [List.length_set]; exact hi)]
    congr 1
    by_cases h : w.1 = i
    · subst h; rw [if_pos rfl]; simp [hi]
    · rw [if_neg h]; simp [List.getElem?_set, h]

/-- What a crash leaves: of the writes those that the truths name. -/
def crashW (K : List (List UInt8)) (Z : List (WR × Bool)) : List (List UInt8) := Z.foldl (fun K p => if p.2 then K.set p.1.1 p.1.2 else K) K
theorem crashW_snoc (K : List (List UInt8)) (Z : List (WR × Bool)) (p : WR × Bool) : crashW K (Z ++ [p]) = if p.2 then (crashW K Z).set p.1.1 p.1.2 else crashW K Z := by simp [crashW, List.foldl_append]
theorem crashW_len (K : List (List UInt8)) (Z : List (WR × Bool)) : (crashW K Z).length = K.length := by
  induction Z generalizing K with
  | nil => rfl
  | cons p t ih =>
    show (crashW (if p.2 then K.set p.1.1 p.1.2 else K) t).length = _
    rw [ih]; split <;> simp
theorem crashW_wide (K : List (List UInt8)) (Z : List (WR × Bool)) (hK : ∀ x ∈ K, x.length = 16) (hZ : ∀ p ∈ Z, p.1.2.length = 16) : ∀ x ∈ crashW K Z, x.length = 16 := by
  induction Z generalizing K with
  | nil => exact hK
  | cons p t ih =>
    refine ih (if p.2 then K.set p.1.1 p.1.2 else K) (fun x hx => ?_) (fun x hx => hZ x (by simp [hx]))
    split at hx
    · rcases List.mem_or_eq_of_mem_set hx with h | h
      · exact hK x h
      · rw [h]; exact hZ p (by simp)
    · exact hK x hx
theorem zip_take_lt {α β : Type} (A : List α) (B : List β) (j : Nat) (ha : j < A.length) (hb : j < B.length) : (A.zip B).take (j + 1) = (A.zip B).take j ++ [(A[j], B[j])] := by
  have h : j < (A.zip B).length := by simp; omega
  rw [List.take_succ_eq_append_getElem h]; simp
theorem zip_take_ge {α β : Type} (A : List α) (B : List β) (j k : Nat) (hb : B.length ≤ j) (hjk : j ≤ k) : (A.zip B).take k = (A.zip B).take j := by
  rw [List.take_of_length_le (by simp; omega), List.take_of_length_le (by simp; omega)]

/-- The call that counts: what is left; the error. -/
def callD : Option Nat → Option Nat × Int
  | none => (none, 0)
  | some 0 => (some 0, 40)
  | some (n + 1) => (some n, 0)
def rightD (n : Nat) (i : Int) (m : Nat) : Bool := decide (0 ≤ i) && decide (i < n) && decide (m ≤ 16)

namespace DS
def at_ (d : DS) (i : Nat) : List UInt8 := lastW d.W i (d.K.getD i [])
def read (d : DS) (i : Int) : List UInt8 × Int :=
  if rightD d.K.length i 0 then if d.lim = some 0 then ([], 40) else (d.at_ i.toNat, 0) else ([], 2)
def write (d : DS) (i : Int) (b : List UInt8) : DS × Int :=
  if rightD d.K.length i b.length then if d.lim = some 0 then (d, 40) else (⟨d.K, d.W ++ [(i.toNat, full b)], (callD d.lim).1⟩, 0) else (d, 2)
def sync (d : DS) : DS × Int := if d.lim = some 0 then (d, 40) else (⟨keepW d.K d.W, [], (callD d.lim).1⟩, 0)
def beat (d : DS) : DS × Int := (⟨d.K, d.W, (callD d.lim).1⟩, (callD d.lim).2)
def limit (d : DS) (n : Int) : DS := ⟨d.K, d.W, some (max n 0).toNat⟩
def crash (d : DS) (keep : List Bool) : DS := ⟨crashW d.K (d.W.zip keep), [], none⟩
def over (d : DS) (i : Int) (b : List UInt8) : DS × Int :=
  if rightD d.K.length i b.length then (⟨d.K.set i.toNat (full b), d.W.filter (fun w => !decide (w.1 = i.toNat)), d.lim⟩, 0) else (d, 2)
/-- Blocks are whole, writes lie on blocks. -/
structure Ok (d : DS) : Prop where
  kw : ∀ x ∈ d.K, x.length = 16
  ww : ∀ w ∈ d.W, w.2.length = 16 ∧ w.1 < d.K.length
end DS
end Go.Proofs.YthimnkmoeonheaaDoor
