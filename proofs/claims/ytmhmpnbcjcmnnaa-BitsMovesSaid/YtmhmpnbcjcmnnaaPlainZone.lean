/- Zones, in plain Lean: the order of values, ends, what may hold. -/
import Derived.Test.YtmhmpnbcjcmnnaaRefZone
namespace Go.Proofs.Ytmhmpnbcjcmnnaa
set_option linter.unusedSimpArgs false
set_option linter.unusedVariables false

/-- A comparison: -1, 0, 1; turned round it is negated; it is transitive. -/
structure Cmp {α : Type} (c : α → α → Int) : Prop where
  anti : ∀ a b, c b a = - c a b
  rng : ∀ a b, c a b = -1 ∨ c a b = 0 ∨ c a b = 1
  trans : ∀ a b d, c a b ≤ 0 → c b d ≤ 0 → c a d ≤ 0
namespace Cmp
variable {α β : Type} {c : α → α → Int}
theorem self (h : Cmp c) (a : α) : c a a = 0 := by have := h.anti a a; omega
theorem turn (h : Cmp c) : Cmp (fun a b => c b a) := ⟨fun a b => h.anti b a, fun a b => h.rng b a, fun a b d h1 h2 => h.trans d b a h2 h1⟩
theorem strict (h : Cmp c) {a b d : α} (h1 : c a b ≤ 0) (h2 : c b d ≤ 0) (h3 : c a d = 0) : c a b = 0 ∧ c b d = 0 := by
  have e1 := h.anti a b
  have e2 := h.anti b d
  have e3 := h.anti a d
  have t1 := h.trans d a b (by omega) h1
  have t2 := h.trans b d a h2 (by omega)
  omega
theorem mono (h : Cmp c) {a b : α} (h1 : c a b ≤ 0) (v : α) : c a v ≤ c b v := by
  have ra := h.rng a v
  have rb := h.rng b v
  by_cases hb : c b v ≤ 0
  · have := h.trans a b v h1 hb
    by_cases hz : c a v = 0
    · have := h.strict h1 hb hz; omega
    · omega
  · omega
theorem of_key (f : α → Int) : Cmp (fun a b => cmp3 (f a) (f b)) := by
  refine ⟨fun a b => ?_, fun a b => cmp3_range _ _, fun a b d => ?_⟩
  · show cmp3 _ _ = - cmp3 _ _
    unfold cmp3; repeat' split
    all_goals omega
  · show cmp3 _ _ ≤ 0 → cmp3 _ _ ≤ 0 → cmp3 _ _ ≤ 0
    unfold cmp3; repeat' split
    all_goals omega
theorem pull (h : Cmp c) (f : β → α) : Cmp (fun a b => c (f a) (f b)) := ⟨fun a b => h.anti _ _, fun a b => h.rng _ _, fun a b d => h.trans _ _ _⟩
theorem lex {c' : α → α → Int} (h : Cmp c) (h' : Cmp c') : Cmp (fun a b => if c a b = 0 then c' a b else c a b) := by
  refine ⟨fun a b => ?_, fun a b => ?_, fun a b d => ?_⟩
  · have e := h.anti a b
    have e' := h'.anti a b
    show (if c b a = 0 then c' b a else c b a) = - (if c a b = 0 then c' a b else c a b)
    by_cases hz : c a b = 0
    · rw [if_pos (by omega), if_pos hz, e']
    · rw [if_neg (by omega), if_neg hz, e]
  · show (if c a b = 0 then c' a b else c a b) = -1 ∨ _
    split
    · exact h'.rng a b
    · exact h.rng a b
  · show (if c a b = 0 then c' a b else c a b) ≤ 0 → (if c b d = 0 then c' b d else c b d) ≤ 0 → (if c a d = 0 then c' a d else c a d) ≤ 0
    intro h1 h2
    have k1 : c a b ≤ 0 := by split at h1 <;> omega
    have k2 : c b d ≤ 0 := by split at h2 <;> omega
    have k3 := h.trans a b d k1 k2
    split
    · rename_i hz
      obtain ⟨z1, z2⟩ := h.strict k1 k2 hz
      rw [if_pos z1] at h1
      rw [if_pos z2] at h2
      exact h'.trans a b d h1 h2
    · exact k3
end Cmp

theorem u8_lt (a b : UInt8) : a < b ↔ a.toNat < b.toNat := UInt8.lt_iff_toNat_lt
theorem u8_eq (a b : UInt8) : a = b ↔ a.toNat = b.toNat := ⟨fun h => by rw [h], fun h => UInt8.toNat_inj.1 h⟩
theorem cmpB_cons (a b : UInt8) (x y : List UInt8) : Lib.compareBytes (a :: x) (b :: y) = if cmp3 (a.toNat : Int) (b.toNat : Int) = 0 then Lib.compareBytes x y else cmp3 (a.toNat : Int) (b.toNat : Int) := by
  show (if a < b then (-1 : Int) else if b < a then 1 else Lib.compareBytes x y) = _
  have h1 := u8_lt a b
  have h2 := u8_lt b a
  rcases Nat.lt_trichotomy a.toNat b.toNat with h | h | h
  · rw [if_pos (h1.2 h), cmp3_lt (by omega)]; rfl
  · rw [if_neg (by rw [h1]; omega), if_neg (by rw [h2]; omega), h, cmp3_eq]; rfl
  · rw [if_neg (by rw [h1]; omega), if_pos (h2.2 h), cmp3_gt (by omega)]; rfl
theorem cmpB_ne (b : UInt8) (y : List UInt8) : Lib.compareBytes [] (b :: y) = -1 ∧ Lib.compareBytes (b :: y) [] = 1 := ⟨rfl, rfl⟩
theorem cmpB_anti : ∀ a b : List UInt8, Lib.compareBytes b a = - Lib.compareBytes a b
  | [], [] => rfl
  | [], _ :: _ => rfl
  | _ :: _, [] => rfl
  | a :: x, b :: y => by
    rw [cmpB_cons, cmpB_cons, cmpB_anti x y]
    have h0 : cmp3 (b.toNat : Int) (a.toNat : Int) = - cmp3 (a.toNat : Int) (b.toNat : Int) := (Cmp.of_key (fun u : UInt8 => (u.toNat : Int))).anti a b
    rw [h0]
    split <;> split <;> omega
theorem cmpB_trans : ∀ a b d : List UInt8, Lib.compareBytes a b ≤ 0 → Lib.compareBytes b d ≤ 0 → Lib.compareBytes a d ≤ 0
  | [], [], _, _, h => h
  | [], b :: y, [], _, h => by rw [(cmpB_ne b y).2] at h; omega
  | [], _ :: _, d :: z, _, _ => by rw [(cmpB_ne d z).1]; omega
  | a :: x, [], _, h, _ => by rw [(cmpB_ne a x).2] at h; omega
  | _ :: _, b :: y, [], _, h => by rw [(cmpB_ne b y).2] at h; omega
  | a :: x, b :: y, d :: z, h1, h2 => by
    rw [cmpB_cons] at h1 h2 ⊢
    have hc := Cmp.of_key (fun u : UInt8 => (u.toNat : Int))
    have k1 : cmp3 (a.toNat : Int) (b.toNat : Int) ≤ 0 := by split at h1 <;> omega
    have k2 : cmp3 (b.toNat : Int) (d.toNat : Int) ≤ 0 := by split at h2 <;> omega
    have k3 : cmp3 (a.toNat : Int) (d.toNat : Int) ≤ 0 := hc.trans a b d k1 k2
    split
    · rename_i hz
      obtain ⟨z1, z2⟩ : cmp3 (a.toNat : Int) (b.toNat : Int) = 0 ∧ cmp3 (b.toNat : Int) (d.toNat : Int) = 0 := hc.strict (a := a) (b := b) (d := d) k1 k2 hz
      rw [if_pos z1] at h1
      rw [if_pos z2] at h2
      exact cmpB_trans x y z h1 h2
    · exact k3
theorem cmpS_cmp : Cmp cmpS := ⟨fun a b => cmpB_anti _ _, fun a b => cmpB_range _ _, fun a b d => cmpB_trans _ _ _⟩
theorem cmpB_zero : ∀ a b : List UInt8, Lib.compareBytes a b = 0 → a = b
  | [], [], _ => rfl
  | [], b :: y, h => by rw [(cmpB_ne b y).1] at h; omega
  | a :: x, [], h => by rw [(cmpB_ne a x).2] at h; omega
  | a :: x, b :: y, h => by
    rw [cmpB_cons] at h
    split at h
    · rename_i hz
      have hab : a = b := by
        refine (u8_eq a b).2 ?_
        unfold cmp3 at hz
        split at hz
        · omega
        · split at hz
          · omega
          · omega
      rw [hab, cmpB_zero x y h]
    · rename_i hz; exact absurd h hz
theorem cmpS_zero {a b : ByteArray} (h : cmpS a b = 0) : a = b := by
  have := cmpB_zero _ _ h
  obtain ⟨⟨a⟩⟩ := a
  obtain ⟨⟨b⟩⟩ := b
  simp at this
  rw [this]
theorem forder_cmp : Cmp forder := Cmp.of_key (fun u => (frank u : Int))
theorem orL_cons (x : Int) (l : List Int) : orL (x :: l) = if x = 0 then orL l else x := rfl
/-- The order of values that are right already. -/
def rorder (a b : Va) : Int := orL [cmp3 a.k b.k, cmp3 a.n b.n, cmpS a.s b.s, forder a.f b.f]
theorem rorder_cmp : Cmp rorder := by
  have h4 : Cmp (fun a b : Va => if forder a.f b.f = 0 then (0 : Int) else forder a.f b.f) := by
    have := forder_cmp.pull (fun a : Va => a.f)
    have e : (fun a b : Va => if forder a.f b.f = 0 then (0 : Int) else forder a.f b.f) = fun a b : Va => forder a.f b.f := by
      funext a b; split <;> omega
    rw [e]; exact this
  exact (Cmp.of_key (fun a : Va => a.k)).lex ((Cmp.of_key (fun a : Va => a.n)).lex ((cmpS_cmp.pull (fun a : Va => a.s)).lex h4))
theorem vorder_cmp : Cmp vorder := rorder_cmp.pull rightOf
theorem rightOf_of {a : Va} (h : rightV a = true) : rightOf a = a := by unfold rightOf; rw [if_pos h]
theorem vorder_of {a b : Va} (ha : rightV a = true) (hb : rightV b = true) : vorder a b = rorder a b := by unfold vorder rorder; rw [rightOf_of ha, rightOf_of hb]
theorem cmp3_zero {a b : Int} (h : cmp3 a b = 0) : a = b := by unfold cmp3 at h; split at h; omega; split at h; omega; omega
theorem frank_inj {a b : Nat} (ha : a < 18446744073709551616) (hb : b < 18446744073709551616) (h : frank a = frank b) : canon a = canon b := by
  have h1 := canon_lt a ha
  have h2 := canon_lt b hb
  unfold frank at h
  split at h <;> split at h <;> omega
theorem right_canon {a : Va} (h : rightV a = true) : canon a.f = a.f := by
  rcases right_facts h with h | h | h | h | h
  · rw [h.2]; decide
  · rw [h.2.2]; decide
  · rw [h.2.2]; decide
  · rw [h.2.2.1]; decide
  · exact h.2.2.2
theorem vorder_zero {a b : Va} (ha : rightV a = true) (hb : rightV b = true) (wa : a.wf) (wb : b.wf) (h : vorder a b = 0) : a = b := by
  rw [vorder_of ha hb] at h
  unfold rorder at h
  rw [orL_cons] at h
  split at h
  · rename_i h1
    rw [orL_cons] at h
    split at h
    · rename_i h2
      rw [orL_cons] at h
      split at h
      · rename_i h3
        rw [orL_one] at h
        have e1 := cmp3_zero h1
        have e2 := cmp3_zero h2
        have e3 := cmpS_zero h3
        have e4 : frank a.f = frank b.f := by have := cmp3_zero h; omega
        have e5 := frank_inj wa.2.2 wb.2.2 e4
        rw [right_canon ha, right_canon hb] at e5
        obtain ⟨k, n, s, f⟩ := a
        obtain ⟨k', n', s', f'⟩ := b
        simp only at e1 e2 e3 e5
        subst e1 e2 e3 e5
        rfl
      · rename_i h3; exact absurd h h3
    · rename_i h2; exact absurd h h2
  · rename_i h1; exact absurd h h1
theorem vorder_k {a b : Va} (ha : rightV a = true) (hb : rightV b = true) (h : vorder a b ≤ 0) : a.k ≤ b.k := by
  rw [vorder_of ha hb] at h
  unfold rorder at h
  rw [orL_cons] at h
  split at h
  · rename_i h1; have := cmp3_zero h1; omega
  · unfold cmp3 at h; split at h; omega; split at h; omega; omega

/-- What counts at a zone's ends. -/
def good (v : Va) : Prop := v.k ≠ 0 ∧ rightV v = true ∧ nanV v = false
theorem vcmp_ok_good {x v : Va} (h : (vcmp x v).2 = true) : good x := by
  unfold vcmp at h
  split at h
  · cases h
  rename_i h1
  have hx : rightV x = true := by
    cases hr : rightV x
    · exfalso; apply h1; right; unfold rightOf; rw [hr]; rfl
    · rfl
  rw [rightOf_of hx] at h h1
  refine ⟨fun h0 => h1 (.inr h0), hx, ?_⟩
  unfold nanV
  by_cases h4 : x.k = 4
  · rw [if_pos h4] at h
    unfold fcmp at h
    split at h
    · cases h
    · rename_i h5; simp [h4]
      cases hf : fnan x.f
      · rfl
      · exact absurd (.inl hf) h5
  · simp [h4]
theorem fkey_of_frank {a b : Nat} (ha : a < 18446744073709551616) (hb : b < 18446744073709551616) (na : fnan a = false) (nb : fnan b = false) (h : frank a ≤ frank b) : fkey a ≤ fkey b := by
  have ca : canon a = a := by unfold canon; rw [na]; rfl
  have cb : canon b = b := by unfold canon; rw [nb]; rfl
  unfold frank at h
  rw [ca, cb] at h
  unfold fkey
  rw [fneg_iff a ha, fneg_iff b hb]
  have ea : a = 9223372036854775808 * (a / 9223372036854775808) + fmag a := by unfold fmag; omega
  have eb : b = 9223372036854775808 * (b / 9223372036854775808) + fmag b := by unfold fmag; omega
  have la : fmag a < 9223372036854775808 := by unfold fmag; omega
  have lb : fmag b < 9223372036854775808 := by unfold fmag; omega
  have sa : a / 9223372036854775808 = 0 ∨ a / 9223372036854775808 = 1 := by omega
  have sb : b / 9223372036854775808 = 0 ∨ b / 9223372036854775808 = 1 := by omega
  clear ca cb na nb
  generalize a / 9223372036854775808 = s at *
  generalize b / 9223372036854775808 = t at *
  generalize fmag a = x at *
  generalize fmag b = y at *
  subst ea eb
  rcases sa with rfl | rfl <;> rcases sb with rfl | rfl <;> simp at h ⊢ <;> (try split at h) <;> (try split at h) <;> omega

/-- Within a kind: what is no greater compares no greater with anything. -/
theorem vcmp_mono {a b : Va} (ga : good a) (gb : good b) (wa : a.wf) (wb : b.wf) (hk : a.k = b.k) (h : vorder a b ≤ 0) (v : Va) : (vcmp a v).2 = (vcmp b v).2 ∧ ((vcmp a v).2 = true → (vcmp a v).1 ≤ (vcmp b v).1) := by
  rw [vorder_of ga.2.1 gb.2.1] at h
  unfold vcmp
  rw [rightOf_of ga.2.1, rightOf_of gb.2.1, ← hk]
  have hV := rightOf_right v
  generalize rightOf v = V at hV
  by_cases h1 : a.k ≠ V.k ∨ a.k = 0
  · rw [if_pos h1, if_pos h1]
    exact ⟨rfl, fun h => by cases h⟩
  rw [if_neg h1, if_neg h1]
  have hkV : a.k = V.k := Decidable.byContradiction fun h => h1 (.inl h)
  have h0 := ga.1
  by_cases h4 : a.k = 4
  · rw [if_pos h4, if_pos h4]
    have na : fnan a.f = false := by have := ga.2.2; unfold nanV at this; simpa [h4] using this
    have nb : fnan b.f = false := by have := gb.2.2; unfold nanV at this; simpa [← hk, h4] using this
    have hr : frank a.f ≤ frank b.f := by
      have e := h
      unfold rorder at e
      rcases right_facts ga.2.1 with q | q | q | q | q <;> try omega
      rcases right_facts gb.2.1 with q' | q' | q' | q' | q' <;> try omega
      rw [hk, cmp3_eq, orL_zero, q.2.1, q'.2.1, cmp3_eq, orL_zero, q.2.2.1, q'.2.2.1, cmpS_empty, orL_zero, orL_one] at e
      unfold forder cmp3 at e
      split at e
      · omega
      · split at e
        · omega
        · omega
    have hfk := fkey_of_frank wa.2.2 wb.2.2 na nb hr
    unfold fcmp
    rw [na, nb]
    by_cases hn : fnan V.f = true
    · rw [if_pos (.inr hn), if_pos (.inr hn)]
      exact ⟨rfl, fun h => by cases h⟩
    · rw [if_neg (by simp [hn]), if_neg (by simp [hn])]
      refine ⟨rfl, fun _ => ?_⟩
      refine (Cmp.of_key (fun x : Int => x)).mono ?_ (fkey V.f)
      show cmp3 _ _ ≤ 0
      unfold cmp3
      split
      · omega
      · split
        · omega
        · omega
  · rw [if_neg h4, if_neg h4]
    refine ⟨rfl, fun _ => ?_⟩
    show orL _ ≤ orL _
    rw [vcmp_right ga.2.1 hV hkV h0 h4, vcmp_right gb.2.1 hV (hk ▸ hkV) (hk ▸ h0) (hk ▸ h4), ← hk]
    have e := (vorder_right ga.2.1 gb.2.1)
    unfold rorder at h
    rw [if_neg (by simp [hk]), if_neg h4, if_neg h0] at e
    rw [e] at h
    by_cases h3 : a.k = 3
    · rw [if_pos h3] at h ⊢
      rw [if_pos h3]
      exact cmpS_cmp.mono h V.s
    · rw [if_neg h3] at h ⊢
      rw [if_neg h3]
      exact (Cmp.of_key (fun x : Int => x)).mono h V.n
end Go.Proofs.Ytmhmpnbcjcmnnaa
