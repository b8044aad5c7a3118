/- Roots: what is got is what was put last, in plain Lean. -/
import Derived.Test.YthimnkmoeonheaaDoorRefRoot
namespace Go.Proofs.YthimnkmoeonheaaDoor
open Go.RowKit
set_option linter.unusedSimpArgs false
set_option linter.unusedVariables false
set_option maxRecDepth 100000

theorem crashW_get8 (K : List (List UInt8)) (Z : List (WR × Bool)) (t : Nat) (h : ∀ p ∈ Z, p.1.1 ≠ t) : (crashW K Z).getD t [] = K.getD t [] := by
  induction Z generalizing K with
  | nil => rfl
  | cons p r ih =>
    show (crashW (if p.2 then K.set p.1.1 p.1.2 else K) r).getD t [] = _
    rw [ih _ (fun q hq => h q (by simp [hq]))]
    have hp := h p (by simp)
    split
    · simp [List.getElem?_set, hp]
    · rfl

/-- A root's entry. -/
def rtE (m v : Nat) (plain : List UInt8) : AE := ((rtPg m v).1, besS (rtPg m v) ((v % 2 : Nat) : Int), plain)
def rtW (s : RS) : WR := ((s.ver + 1) % 2, full (bytes8 (s.A.length + 1)))
theorem rwr_form (s : RS) (plain : List UInt8) (h2 : 2 ≤ s.D.K.length) (hp : plain.length ≤ 65536) :
    rwr s [] plain = ((if s.D.lim = some 0 then s.D else ⟨s.D.K, s.D.W ++ [rtW s], (callD s.D.lim).1⟩), s.A ++ [rtE (s.A.length + 1) (s.ver + 1) plain], if s.D.lim = some 0 then 40 else 0) := by
  have hs : sealA s.A [] (rtPg (s.A.length + 1) (s.ver + 1)).1 (besS (rtPg (s.A.length + 1) (s.ver + 1)) (((s.ver + 1) % 2 : Nat) : Int)) plain = (s.A ++ [rtE (s.A.length + 1) (s.ver + 1) plain], s.A.length + 1, 0) := by
    unfold sealA
    rw [if_neg (fun h => h.elim (rtPg_good _ _) (by omega)), if_neg (by simp)]
    rfl
  unfold rwr pwriteA
  rw [if_neg (by omega), hs]
  simp only [if_true]
  unfold DS.write
  rw [rightD_ok _ _ _ (by omega) (by omega) (by rw [bytes8_len]; omega)]
  simp only [if_true, Int.toNat_natCast]
  split <;> rfl
theorem rput_none (s : RS) (plain : List UInt8) (h2 : 2 ≤ s.D.K.length) (hp : plain.length ≤ 65536) (hl : s.D.lim = none) :
    rput s [] plain = (⟨⟨keepW s.D.K (s.D.W ++ [rtW s]), [], none⟩, s.A ++ [rtE (s.A.length + 1) (s.ver + 1) plain], s.ver + 1, s.A.length + 1⟩, 0) := by
  rw [rput_eq, rwr_form s plain h2 hp, hl]
  simp [rput2, DS.sync, DS.beat, callD]
theorem rput_zero (s : RS) (plain : List UInt8) (h2 : 2 ≤ s.D.K.length) (hp : plain.length ≤ 65536) (hl : s.D.lim = some 0) :
    rput s [] plain = (⟨s.D, s.A ++ [rtE (s.A.length + 1) (s.ver + 1) plain], s.ver, s.mark⟩, 40) := by
  rw [rput_eq, rwr_form s plain h2 hp, hl]
  simp [rput2]
theorem rput_one (s : RS) (plain : List UInt8) (h2 : 2 ≤ s.D.K.length) (hp : plain.length ≤ 65536) (hl : s.D.lim = some 1) :
    rput s [] plain = (⟨⟨s.D.K, s.D.W ++ [rtW s], some 0⟩, s.A ++ [rtE (s.A.length + 1) (s.ver + 1) plain], s.ver, s.mark⟩, 40) := by
  rw [rput_eq, rwr_form s plain h2 hp, hl]
  simp [rput2, DS.sync, callD]
theorem rput_two (s : RS) (plain : List UInt8) (h2 : 2 ≤ s.D.K.length) (hp : plain.length ≤ 65536) (hl : s.D.lim = some 2) :
    rput s [] plain = (⟨⟨keepW s.D.K (s.D.W ++ [rtW s]), [], some 0⟩, s.A ++ [rtE (s.A.length + 1) (s.ver + 1) plain], s.ver, s.mark⟩, 40) := by
  rw [rput_eq, rwr_form s plain h2 hp, hl]
  simp [rput2, DS.sync, DS.beat, callD]
theorem rput_more (s : RS) (plain : List UInt8) (n : Nat) (h2 : 2 ≤ s.D.K.length) (hp : plain.length ≤ 65536) (hl : s.D.lim = some (n + 3)) :
    rput s [] plain = (⟨⟨keepW s.D.K (s.D.W ++ [rtW s]), [], some n⟩, s.A ++ [rtE (s.A.length + 1) (s.ver + 1) plain], s.ver + 1, s.A.length + 1⟩, 0) := by
  rw [rput_eq, rwr_form s plain h2 hp, hl]
  simp [rput2, DS.sync, DS.beat, callD]

def Good8 (s : RS) (now : List UInt8) : Prop := s.ver ≠ 0 → 1 ≤ s.mark ∧ s.A[s.mark - 1]? = some (rtE s.mark s.ver now)
def Safe8 (s : RS) : Prop := s.ver ≠ 0 → s.D.K.getD (s.ver % 2) [] = full (bytes8 s.mark) ∧ ∀ x ∈ s.D.W, x.1 ≠ s.ver % 2
def Uniq8 (A : List AE) : Prop := ∀ i e, A[i]? = some e → ∃ v plain, v ≤ 1099511627776 ∧ e = rtE (i + 1) v plain
theorem Good8.grow {s : RS} {now : List UInt8} {D : DS} {e : AE} (h : Good8 s now) : Good8 ⟨D, s.A ++ [e], s.ver, s.mark⟩ now := fun h0 => by
  obtain ⟨h1, h2⟩ := h h0
  exact ⟨h1, by have := (List.getElem?_eq_some_iff.1 h2).1; rw [List.getElem?_append_left (by simpa using this)]; exact h2⟩
theorem Good8.dev {s : RS} {now : List UInt8} (D : DS) (h : Good8 s now) : Good8 ⟨D, s.A, s.ver, s.mark⟩ now := h
theorem Good8.new (s : RS) (D : DS) (plain : List UInt8) : Good8 ⟨D, s.A ++ [rtE (s.A.length + 1) (s.ver + 1) plain], s.ver + 1, s.A.length + 1⟩ plain := fun _ => ⟨by simp, by simp⟩
theorem Uniq8.grow {s : RS} {plain : List UInt8} (h : Uniq8 s.A) (hv : s.ver < 1099511627776) : Uniq8 (s.A ++ [rtE (s.A.length + 1) (s.ver + 1) plain]) := by
  intro i e hi
  by_cases hl : i < s.A.length
  · rw [List.getElem?_append_left hl] at hi
    exact h i e hi
  · have h1 := (List.getElem?_eq_some_iff.1 hi).1
    simp at h1
    obtain rfl : i = s.A.length := by omega
    simp at hi
    exact ⟨s.ver + 1, plain, by omega, hi.symm⟩
theorem safe_new (s : RS) (l : Option Nat) (A : List AE) (h2 : 2 ≤ s.D.K.length) : Safe8 ⟨⟨keepW s.D.K (s.D.W ++ [rtW s]), [], l⟩, A, s.ver + 1, s.A.length + 1⟩ := fun _ => by
  refine ⟨?_, by simp⟩
  show (keepW s.D.K (s.D.W ++ [rtW s])).getD ((s.ver + 1) % 2) [] = _
  rw [keepW_get _ _ _ (by omega), lastW_snoc, if_pos (show (rtW s).1 = (s.ver + 1) % 2 from rfl)]
  rfl
theorem safe_old1 (s : RS) (l : Option Nat) (A : List AE) (h : Safe8 s) : Safe8 ⟨⟨s.D.K, s.D.W ++ [rtW s], l⟩, A, s.ver, s.mark⟩ := fun h0 => by
  obtain ⟨h1, h2⟩ := h h0
  refine ⟨h1, fun x hx => ?_⟩
  rcases List.mem_append.1 hx with hx | hx
  · exact h2 x hx
  · simp at hx; subst hx; show (s.ver + 1) % 2 ≠ s.ver % 2; omega
theorem safe_old2 (s : RS) (l : Option Nat) (A : List AE) (h2 : 2 ≤ s.D.K.length) (h : Safe8 s) : Safe8 ⟨⟨keepW s.D.K (s.D.W ++ [rtW s]), [], l⟩, A, s.ver, s.mark⟩ := fun h0 => by
  obtain ⟨h1, h3⟩ := h h0
  refine ⟨?_, by simp⟩
  show (keepW s.D.K (s.D.W ++ [rtW s])).getD (s.ver % 2) [] = _
  rw [keepW_get _ _ _ (by omega), lastW_snoc, if_neg (by show (s.ver + 1) % 2 ≠ s.ver % 2; omega), lastW_not _ _ _ h3]
  exact h1
theorem safe_crash (s : RS) (keep : List Bool) (h : Safe8 s) : Safe8 ⟨s.D.crash keep, s.A, s.ver, s.mark⟩ := fun h0 => by
  obtain ⟨h1, h3⟩ := h h0
  refine ⟨?_, by simp [DS.crash]⟩
  show (crashW s.D.K (s.D.W.zip keep)).getD (s.ver % 2) [] = _
  rw [crashW_get8 _ _ _ (fun p hp => h3 _ (List.of_mem_zip hp).1)]
  exact h1
theorem safe_limit (s : RS) (n : Int) (h : Safe8 s) : Safe8 ⟨s.D.limit n, s.A, s.ver, s.mark⟩ := h
/-- A put, whatever is left of the calls. -/
theorem rput_inv (s : RS) (now plain : List UInt8) (h2 : 2 ≤ s.D.K.length) (hp : plain.length ≤ 65536) (hg : Good8 s now) :
    (rput s [] plain).1.A = s.A ++ [rtE (s.A.length + 1) (s.ver + 1) plain] ∧
    (((rput s [] plain).2 = 0 ∧ (rput s [] plain).1.ver = s.ver + 1 ∧ Good8 (rput s [] plain).1 plain ∧ Safe8 (rput s [] plain).1 ∧ (rput s [] plain).1.mark ≤ s.A.length + 1) ∨
      ((rput s [] plain).2 = 40 ∧ (rput s [] plain).1.ver = s.ver ∧ (rput s [] plain).1.mark = s.mark ∧ Good8 (rput s [] plain).1 now ∧ (Safe8 s → Safe8 (rput s [] plain).1))) := by
  match hl : s.D.lim with
  | none => rw [rput_none s plain h2 hp hl]; exact ⟨rfl, .inl ⟨rfl, rfl, Good8.new _ _ _, safe_new s _ _ h2, Nat.le_refl _⟩⟩
  | some 0 => rw [rput_zero s plain h2 hp hl]; exact ⟨rfl, .inr ⟨rfl, rfl, rfl, hg.grow, fun h => h⟩⟩
  | some 1 => rw [rput_one s plain h2 hp hl]; exact ⟨rfl, .inr ⟨rfl, rfl, rfl, hg.grow, fun h => safe_old1 s _ _ h⟩⟩
  | some 2 => rw [rput_two s plain h2 hp hl]; exact ⟨rfl, .inr ⟨rfl, rfl, rfl, hg.grow, fun h => safe_old2 s _ _ h2 h⟩⟩
  | some (n + 3) => rw [rput_more s plain n h2 hp hl]; exact ⟨rfl, .inl ⟨rfl, rfl, Good8.new _ _ _, safe_new s _ _ h2, Nat.le_refl _⟩⟩

theorem rget_zero (s : RS) (G : List K3) (h : s.ver = 0) : rget s G = ([], 90) := by unfold rget; rw [if_pos h]
theorem rget_safe (s : RS) (now : List UInt8) (hg : Good8 s now) (hs : Safe8 s) (h2 : 2 ≤ s.D.K.length) (h0 : s.ver ≠ 0) (hl : s.D.lim ≠ some 0) (hm : s.mark < 18446744073709551616) : rget s [] = (now, 0) := by
  obtain ⟨g1, g2⟩ := hg h0
  obtain ⟨s1, s2⟩ := hs h0
  have hr : s.D.read ((s.ver % 2 : Nat) : Int) = (full (bytes8 s.mark), 0) := by
    unfold DS.read
    rw [rightD_ok _ _ _ (by omega) (by omega) (by omega), if_pos rfl, if_neg hl, Int.toNat_natCast]
    unfold DS.at_
    rw [lastW_not _ _ _ s2, s1]
  unfold rget
  rw [if_neg h0, preadA_h _ _ _ _ _ s.mark hr (by omega) hm, openA_page s.A [] (rtPg s.mark s.ver) (rtPg s.mark s.ver) _ _ now s.mark g2 (by omega) (by simp), if_pos ⟨rfl, rfl⟩]
theorem rget_three (s : RS) (now : List UInt8) (hg : Good8 s now) (hu : Uniq8 s.A) (h2 : 2 ≤ s.D.K.length) (h0 : s.ver ≠ 0) (hv : s.ver ≤ 1099511627776) (hA : s.A.length ≤ 1099511627776) :
    rget s [] = (now, 0) ∨ (rget s []).2 = 40 ∧ s.D.lim = some 0 ∨ (rget s []).2 = 51 := by
  obtain ⟨g1, g2⟩ := hg h0
  have gl := (List.getElem?_eq_some_iff.1 g2).1
  unfold rget
  rw [if_neg h0]
  unfold preadA
  by_cases hl : s.D.lim = some 0
  · refine .inr (.inl ⟨?_, hl⟩)
    have hr : s.D.read ((s.ver % 2 : Nat) : Int) = ([], 40) := by
      unfold DS.read
      rw [rightD_ok _ _ _ (by omega) (by omega) (by omega), if_pos rfl, if_pos hl]
    rw [hr]; rfl
  have hr : s.D.read ((s.ver % 2 : Nat) : Int) = (s.D.at_ (s.ver % 2), 0) := by
    unfold DS.read
    rw [rightD_ok _ _ _ (by omega) (by omega) (by omega), if_pos rfl, if_neg hl, Int.toNat_natCast]
  rw [hr]
  simp only [if_true]
  generalize s.D.at_ (s.ver % 2) = b
  by_cases hb : (handleA b).2 = true
  · rw [if_pos hb]
    unfold openA
    rw [if_neg (by simp)]
    by_cases hz : (handleA b).1 = 0
    · rw [if_pos hz]; exact .inr (.inr rfl)
    · rw [if_neg hz]
      match he : s.A[(handleA b).1 - 1]? with
      | none => exact .inr (.inr rfl)
      | some e =>
        simp only
        by_cases hk : e.1 = (rtPg s.mark s.ver).1 ∧ e.2.1 = besS (rtPg s.mark s.ver) ((s.ver % 2 : Nat) : Int)
        · rw [if_pos hk]
          obtain ⟨v, plain, hv1, rfl⟩ := hu _ e he
          have hlt := (List.getElem?_eq_some_iff.1 he).1
          have h1 := (besS_inj.1 (show besS (rtPg ((handleA b).1 - 1 + 1) v) _ = _ from hk.2)).1
          obtain ⟨h3, h4⟩ := rtPg_inj (by omega) (by omega) (by omega) (by omega) h1
          rw [show (handleA b).1 - 1 = s.mark - 1 by omega, g2] at he
          left
          have := congrArg (fun z : AE => z.2.2) (Option.some.inj he)
          exact congrArg (fun z : List UInt8 => (z, (0 : Int))) this.symm
        · rw [if_neg hk]; exact .inr (.inr rfl)
  · rw [if_neg hb]; exact .inr (.inr rfl)
end Go.Proofs.YthimnkmoeonheaaDoor
