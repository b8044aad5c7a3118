/- Zones, in plain Lean: what the statements say. -/
import Derived.Test.YtmhmpnbcjcmnnaaPlainZone
namespace Go.Proofs.Ytmhmpnbcjcmnnaa
set_option linter.unusedSimpArgs false
set_option linter.unusedVariables false

/-- One end: nothing yet, or a good value of S on its side. -/
def End (c : Va → Va → Int) (S : Va → Prop) (e : Va) : Prop := (e = Va.zero ∧ ∀ x, ¬ S x) ∨ (S e ∧ ∀ x, S x → c e x ≤ 0)
structure Ends (S : Va → Prop) (z : Zo) : Prop where
  mn : End vorder S z.mn
  mx : End (fun a b => vorder b a) S z.mx
def goods (l : List Va) (x : Va) : Prop := x ∈ l ∧ good x
theorem end_add {c : Va → Va → Int} (hc : Cmp c) {S : Va → Prop} {e v : Va} (hS : ∀ x, S x → x.k ≠ 0) (h : End c S e) (d : Va → Prop) (hd : ∀ x, d x ↔ S x ∨ x = v) :
    End c d (if e.k = 0 ∨ c v e = -1 then v else e) := by
  right
  rcases h with ⟨rfl, h2⟩ | ⟨h1, h2⟩
  · rw [if_pos (.inl rfl)]
    refine ⟨(hd v).2 (.inr rfl), fun x hx => ?_⟩
    rcases (hd x).1 hx with h | h
    · exact absurd h (h2 x)
    · rw [h, hc.self]; omega
  · by_cases hv : c v e = -1
    · rw [if_pos (.inr hv)]
      refine ⟨(hd v).2 (.inr rfl), fun x hx => ?_⟩
      rcases (hd x).1 hx with h | h
      · exact hc.trans v e x (by omega) (h2 x h)
      · rw [h, hc.self]; omega
    · rw [if_neg (by rintro (h | h); exact hS e h1 h; exact hv h)]
      refine ⟨(hd e).2 (.inl h1), fun x hx => ?_⟩
      rcases (hd x).1 hx with h | h
      · exact h2 x h
      · rw [h]
        have := hc.anti v e
        have := hc.rng v e
        omega
theorem end_same {c : Va → Va → Int} {S d : Va → Prop} {e : Va} (h : End c S e) (hd : ∀ x, d x ↔ S x) : End c d e := by
  rcases h with ⟨h1, h2⟩ | ⟨h1, h2⟩
  · exact .inl ⟨h1, fun x hx => h2 x ((hd x).1 hx)⟩
  · exact .inr ⟨(hd e).2 h1, fun x hx => h2 x ((hd x).1 hx)⟩
theorem not_good {v : Va} (h : v.k = 0 ∨ rightV v = false ∨ nanV v = true) : ¬ good v := by
  rintro ⟨h1, h2, h3⟩
  rcases h with h | h | h
  · exact h1 h
  · rw [h] at h2; cases h2
  · rw [h] at h3; cases h3
theorem ends_take (l : List Va) : ∀ j, j ≤ l.length → j ≤ 1000000 → Ends (goods (l.take j)) (ofZ (l.take j)) := by
  intro j
  induction j with
  | zero => intro _ _; exact ⟨.inl ⟨rfl, fun x hx => by simp [goods] at hx⟩, .inl ⟨rfl, fun x hx => by simp [goods] at hx⟩⟩
  | succ j ih =>
    intro h hj
    have hi := ih (by omega) (by omega)
    have hf := fine_take l j (by omega) (by omega)
    rw [List.take_succ_eq_append_getElem (by omega), ofZ_snoc, join_one hf (by omega)]
    generalize l[j] = v
    generalize l.take j = t at hi
    have hgd : good v → ∀ x, goods (t ++ [v]) x ↔ goods t x ∨ x = v := fun hg x => by
      unfold goods
      rw [List.mem_append, List.mem_singleton]
      constructor
      · rintro ⟨h1 | h1, h2⟩
        · exact .inl ⟨h1, h2⟩
        · exact .inr h1
      · rintro (h1 | h1)
        · exact ⟨.inl h1.1, h1.2⟩
        · exact ⟨.inr h1, h1 ▸ hg⟩
    have hbd : ¬ good v → ∀ x, goods (t ++ [v]) x ↔ goods t x := fun hg x => by
      unfold goods
      rw [List.mem_append, List.mem_singleton]
      constructor
      · rintro ⟨h1 | h1, h2⟩
        · exact ⟨h1, h2⟩
        · exact absurd (h1 ▸ h2) hg
      · rintro h1
        exact ⟨.inl h1.1, h1.2⟩
    by_cases hk : v.k = 0 ∨ rightV v = false
    · rw [if_pos hk]
      have := hbd (not_good (by rcases hk with h | h; exact .inl h; exact .inr (.inl h)))
      exact ⟨end_same hi.mn this, end_same hi.mx this⟩
    rw [if_neg hk]
    by_cases hn : nanV v = true
    · rw [if_pos hn]
      have := hbd (not_good (.inr (.inr hn)))
      exact ⟨end_same hi.mn this, end_same hi.mx this⟩
    rw [if_neg hn]
    have hg : good v := ⟨fun h => hk (.inl h), by cases hr : rightV v; exact absurd (.inr hr) hk; rfl, by simpa using hn⟩
    have := hgd hg
    have hS : ∀ x, goods t x → x.k ≠ 0 := fun x hx => hx.2.1
    refine ⟨end_add vorder_cmp hS hi.mn _ this, ?_⟩
    have h2 := end_add vorder_cmp.turn hS hi.mx _ this
    have e : (vorder (ofZ t).mx v = -1) ↔ (vorder v (ofZ t).mx = 1) := by have := vorder_cmp.anti v (ofZ t).mx; omega
    simp only [e] at h2
    exact h2
theorem ends_of (l : List Va) (h : l.length ≤ 1000000) : Ends (goods l) (ofZ l) := by
  have := ends_take l l.length (Nat.le_refl _) h
  rwa [List.take_length] at this

/-- The end that stands on a side, by a comparison. -/
def pickC (c : Va → Va → Int) (a b : Va) : Va := if a.k = 0 ∨ b.k ≠ 0 ∧ c b a = -1 then b else a
theorem pick_min (a b : Va) : pickV a b (-1) = pickC vorder a b := rfl
theorem pick_max (a b : Va) : pickV a b 1 = pickC (fun a b => vorder b a) a b := by
  unfold pickV pickC
  have e : vorder b a = 1 ↔ vorder a b = -1 := by have := vorder_cmp.anti a b; omega
  simp only [e]
theorem pick_assoc {c : Va → Va → Int} (hc : Cmp c) (x y z : Va) : pickC c x (pickC c y z) = pickC c (pickC c x y) z := by
  unfold pickC
  by_cases hx : x.k = 0
  · have h1 : (if x.k = 0 ∨ y.k ≠ 0 ∧ c y x = -1 then y else x) = y := if_pos (.inl hx)
    rw [h1, if_pos (.inl hx)]
  by_cases hy : y.k = 0
  · have h1 : (if y.k = 0 ∨ z.k ≠ 0 ∧ c z y = -1 then z else y) = z := if_pos (.inl hy)
    have h2 : (if x.k = 0 ∨ y.k ≠ 0 ∧ c y x = -1 then y else x) = x := if_neg (by rintro (h | h); exact hx h; exact h.1 hy)
    rw [h1, h2]
  by_cases hz : z.k = 0
  · have h1 : (if y.k = 0 ∨ z.k ≠ 0 ∧ c z y = -1 then z else y) = y := if_neg (by rintro (h | h); exact hy h; exact h.1 hz)
    rw [h1]
    have h2 : (if x.k = 0 ∨ y.k ≠ 0 ∧ c y x = -1 then y else x).k ≠ 0 := by split <;> assumption
    rw [if_neg (c := (if x.k = 0 ∨ y.k ≠ 0 ∧ c y x = -1 then y else x).k = 0 ∨ _) (by rintro (h | h); exact h2 h; exact h.1 hz)]
  simp only [hx, hy, hz, false_or, ne_eq, not_false_eq_true, true_and]
  have tr := hc.trans
  have st := @hc.strict
  by_cases hzy : c z y = -1
  · rw [if_pos hzy]
    simp only [hz, not_false_eq_true, true_and]
    by_cases hyx : c y x = -1
    · rw [if_pos hyx]
      simp only [hy, false_or]
      rw [if_pos hzy]
      have h1 := tr z y x (by omega) (by omega)
      have h2 : c z x ≠ 0 := fun h => by have := st (a := z) (b := y) (d := x) (by omega) (by omega) h; omega
      have := hc.rng z x
      rw [if_pos (by omega)]
    · rw [if_neg hyx]
      simp only [hx, false_or]
  · rw [if_neg hzy]
    simp only [hy, not_false_eq_true, true_and]
    by_cases hyx : c y x = -1
    · rw [if_pos hyx]
      simp only [hy, false_or]
      rw [if_neg hzy]
    · rw [if_neg hyx]
      simp only [hx, false_or]
      rw [if_neg]
      intro hzx
      have r1 := hc.rng z y
      have r2 := hc.rng y x
      have a1 := hc.anti y x
      have h1 := tr z x y (by omega) (by omega)
      have h2 : c z y ≠ 0 := fun h => by have := st (a := z) (b := x) (d := y) (by omega) (by omega) h; omega
      omega
theorem wrap_add (x y z : Int) : IntKind.i64.wrap (x + IntKind.i64.wrap (y + z)) = IntKind.i64.wrap (IntKind.i64.wrap (x + y) + z) := by simp only [IntKind.wrap_i64]; omega
theorem join_assoc (a b d : Zo) : joinZ a (joinZ b d) = joinZ (joinZ a b) d := by
  unfold joinZ
  simp only [wrap_add, pick_min, pick_max, pick_assoc vorder_cmp, pick_assoc vorder_cmp.turn]
theorem join_zero {z : Zo} {n : Nat} (hz : z.Fine n) (hn : n ≤ 1000000) : joinZ z Zo.zero = z := by
  have h1 := hz.r
  have h2 := hz.nu0
  have h3 := hz.nu1
  have h4 := hz.na0
  have h5 := hz.na1
  unfold joinZ
  show (⟨IntKind.i64.wrap (z.r + 0), IntKind.i64.wrap (z.nu + 0), IntKind.i64.wrap (z.na + 0), pickV z.mn Va.zero (-1), pickV z.mx Va.zero 1⟩ : Zo) = z
  rw [pick_zero _ _ hz.mn, pick_zero _ _ hz.mx, Int.add_zero, Int.add_zero, Int.add_zero, wrapc (by omega) (by omega), wrapc (by omega) (by omega), wrapc (by omega) (by omega)]
theorem join_append (a b : List Va) (ha : a.length ≤ 1000000) : joinZ (ofZ a) (ofZ b) = ofZ (a ++ b) := by
  have h : ∀ j, j ≤ b.length → joinZ (ofZ a) (ofZ (b.take j)) = ofZ (a ++ b.take j) := by
    intro j
    induction j with
    | zero => intro _; simp only [List.take_zero, List.append_nil]; exact join_zero (fine_of a ha) ha
    | succ j ih =>
      intro hj
      rw [List.take_succ_eq_append_getElem (by omega), ofZ_snoc, ← List.append_assoc, ofZ_snoc, join_assoc, ih (by omega)]
  have := h b.length (Nat.le_refl _)
  rwa [List.take_length] at this

/-- What holds of a value may hold of the zone. -/
theorem holds_yes {op : Int} {x v : Va} (h : zholds op x v = 1) : (vcmp x v).2 = true ∧ 0 ≤ op ∧ op ≤ 5 ∧ opYes op (vcmp x v).1 = true := by
  unfold zholds at h
  split at h
  · omega
  rename_i h1
  split at h
  · rename_i h2
    refine ⟨?_, by omega, by omega, h2⟩
    cases hb : (vcmp x v).2
    · exact absurd (.inl hb) h1
    · rfl
  · omega
theorem yes_holds {op : Int} {x v : Va} (h1 : (vcmp x v).2 = true) (h2 : 0 ≤ op) (h3 : op ≤ 5) (h4 : opYes op (vcmp x v).1 = true) : zholds op x v = 1 := by
  unfold zholds
  rw [if_neg (by rw [h1]; simp; omega), if_pos h4]
/-- A zone whose ends are e and f, of one kind, with x between them. -/
theorem may_between {z : Zo} {x v : Va} {op : Int} (gmn : good z.mn) (gmx : good z.mx) (gx : good x) (wmn : z.mn.wf) (wmx : z.mx.wf) (wx : x.wf) (h1 : vorder z.mn x ≤ 0) (h2 : vorder x z.mx ≤ 0) (h : zholds op x v = 1) : zmay z op v = true := by
  obtain ⟨hok, o1, o2, hy⟩ := holds_yes h
  unfold zmay
  rw [if_neg gmn.1]
  by_cases hk : z.mn.k = z.mx.k
  case neg => rw [if_pos hk]
  rw [if_neg (by simp [hk])]
  have k1 := vorder_k gmn.2.1 gx.2.1 h1
  have k2 := vorder_k gx.2.1 gmx.2.1 h2
  have m1 := vcmp_mono gmn gx wmn wx (by omega) h1 v
  have m2 := vcmp_mono gx gmx wx wmx (by omega) h2 v
  have ok1 : (vcmp z.mn v).2 = true := by rw [m1.1]; exact hok
  have ok2 : (vcmp z.mx v).2 = true := by rw [← m2.1]; exact hok
  have c1 := m1.2 ok1
  have c2 := m2.2 hok
  generalize (vcmp x v).1 = c at *
  have y1 : ∀ o, 0 ≤ o → o ≤ 5 → opYes o (vcmp z.mn v).1 = true → zholds o z.mn v = 1 := fun o a b d => yes_holds ok1 a b d
  have y2 : ∀ o, 0 ≤ o → o ≤ 5 → opYes o (vcmp z.mx v).1 = true → zholds o z.mx v = 1 := fun o a b d => yes_holds ok2 a b d
  generalize (vcmp z.mn v).1 = d at *
  generalize (vcmp z.mx v).1 = e at *
  rcases (show op = 0 ∨ op = 1 ∨ op = 2 ∨ op = 3 ∨ op = 4 ∨ op = 5 by omega) with rfl | rfl | rfl | rfl | rfl | rfl
  · have hc : c = 0 := by simpa [opYes] using hy
    rw [if_pos rfl, y1 3 (by omega) (by omega) (by simp [opYes]; omega), y2 5 (by omega) (by omega) (by simp [opYes]; omega)]; rfl
  · have hc : c ≠ 0 := by simpa [opYes] using hy
    rw [if_neg (by omega), if_pos rfl]
    by_cases hd : d = 0
    · rw [y2 1 (by omega) (by omega) (by simp [opYes]; omega)]; simp
    · rw [y1 1 (by omega) (by omega) (by simp [opYes]; exact hd)]; simp
  · have hc : c < 0 := by simpa [opYes] using hy
    rw [if_neg (by omega), if_neg (by omega), if_pos (by omega), y1 2 (by omega) (by omega) (by simp [opYes]; omega)]; rfl
  · have hc : c ≤ 0 := by simpa [opYes] using hy
    rw [if_neg (by omega), if_neg (by omega), if_pos (by omega), y1 3 (by omega) (by omega) (by simp [opYes]; omega)]; rfl
  · have hc : 0 < c := by simpa [opYes] using hy
    rw [if_neg (by omega), if_neg (by omega), if_neg (by omega), if_pos (by omega), y2 4 (by omega) (by omega) (by simp [opYes]; omega)]; rfl
  · have hc : 0 ≤ c := by simpa [opYes] using hy
    rw [if_neg (by omega), if_neg (by omega), if_neg (by omega), if_pos (by omega), y2 5 (by omega) (by omega) (by simp [opYes]; omega)]; rfl
theorem zone_sound (l : List Va) (hl : l.length ≤ 1000000) (hw : ∀ x ∈ l, x.wf) (op : Int) (v : Va) (x : Va) (hx : x ∈ l) (h : zholds op x v = 1) : zmay (ofZ l) op v = true := by
  have gx := vcmp_ok_good (holds_yes h).1
  have hE := ends_of l hl
  have hgx : goods l x := ⟨hx, gx⟩
  have hW := ofZ_wf l hw
  rcases hE.mn with ⟨_, h1⟩ | ⟨h1, h2⟩
  · exact absurd hgx (h1 x)
  rcases hE.mx with ⟨_, h3⟩ | ⟨h3, h4⟩
  · exact absurd hgx (h3 x)
  exact may_between h1.2 h3.2 gx hW.2.2.2.1 hW.2.2.2.2 (hw x hx) (h2 x hgx) (h4 x hgx) h

theorem join_comm (a b : List Va) (ha : a.length ≤ 1000) (hb : b.length ≤ 1000) (wa : ∀ x ∈ a, x.wf) (wb : ∀ x ∈ b, x.wf) : joinZ (ofZ a) (ofZ b) = joinZ (ofZ b) (ofZ a) := by
  have hA := ends_of a (by omega)
  have hB := ends_of b (by omega)
  have fA := fine_of a (by omega)
  have fB := fine_of b (by omega)
  have wA := ofZ_wf a wa
  have wB := ofZ_wf b wb
  have pc : ∀ {c : Va → Va → Int} (hc : Cmp c) (hz : ∀ x y, good x → good y → x.wf → y.wf → c x y = 0 → x = y) (x y : Va), x.wf → y.wf → End c (goods a) x → End c (goods b) y → (x.k = 0 → x = Va.zero) → (y.k = 0 → y = Va.zero) → pickC c x y = pickC c y x := by
    intro c hc hz x y wx wy ex ey zx zy
    unfold pickC
    by_cases h1 : x.k = 0
    · rw [if_pos (.inl h1)]
      by_cases h2 : y.k = 0
      · rw [if_pos (.inl h2), zx h1, zy h2]
      · rw [if_neg (by rintro (h | h); exact h2 h; exact h.1 h1)]
    by_cases h2 : y.k = 0
    · rw [if_neg (by rintro (h | h); exact h1 h; exact h.1 h2), if_pos (.inl h2)]
    simp only [h1, h2, false_or, ne_eq, not_false_eq_true, true_and]
    have an := hc.anti x y
    rcases hc.rng x y with h | h | h
    · rw [if_neg (by omega), if_pos h]
    · have gx : good x := by
        rcases ex with ⟨e, _⟩ | ⟨e, _⟩
        · rw [e] at h1; exact absurd rfl h1
        · exact e.2
      have gy : good y := by
        rcases ey with ⟨e, _⟩ | ⟨e, _⟩
        · rw [e] at h2; exact absurd rfl h2
        · exact e.2
      rw [if_neg (by omega), if_neg (by omega), hz x y gx gy wx wy h]
    · rw [if_pos (by omega), if_neg (by omega)]
  unfold joinZ
  rw [pick_min, pick_max, pick_min, pick_max, Int.add_comm (ofZ a).r, Int.add_comm (ofZ a).nu, Int.add_comm (ofZ a).na,
    pc vorder_cmp (fun x y gx gy wx wy h => vorder_zero gx.2.1 gy.2.1 wx wy h) _ _ wA.2.2.2.1 wB.2.2.2.1 hA.mn hB.mn fA.mn fB.mn,
    pc vorder_cmp.turn (fun x y gx gy wx wy h => (vorder_zero gy.2.1 gx.2.1 wy wx h).symm) _ _ wA.2.2.2.2 wB.2.2.2.2 hA.mx hB.mx fA.mx fB.mx]

/-- The ends are values that hold what the zone may. -/
theorem may_witness {l : List Va} {op : Int} {v : Va} (hE : Ends (goods l) (ofZ l)) (hk : ∀ x, goods l x → x.k = v.k) (hop : 0 ≤ op ∧ op ≤ 5) (h : zmay (ofZ l) op v = true) :
    ∃ x, goods l x ∧ (zholds op x v = 1 ∨ (op = 0 ∧ ∃ y, goods l y ∧ zholds 3 x v = 1 ∧ zholds 5 y v = 1)) := by
  rcases hE.mn with ⟨e, _⟩ | ⟨g1, _⟩
  · unfold zmay at h; rw [e, if_pos (show Va.zero.k = 0 from rfl)] at h; cases h
  rcases hE.mx with ⟨_, e⟩ | ⟨g2, _⟩
  · exact absurd g1 (e _)
  unfold zmay at h
  rw [if_neg g1.2.1, if_neg (by rw [hk _ g1, hk _ g2]; simp)] at h
  rcases (show op = 0 ∨ op = 1 ∨ op = 2 ∨ op = 3 ∨ op = 4 ∨ op = 5 by omega) with rfl | rfl | rfl | rfl | rfl | rfl
  · simp at h
    exact ⟨_, g1, .inr ⟨rfl, _, g2, h.1, h.2⟩⟩
  · simp at h
    rcases h with h | h
    · exact ⟨_, g1, .inl h⟩
    · exact ⟨_, g2, .inl h⟩
  · simp at h; exact ⟨_, g1, .inl h⟩
  · simp at h; exact ⟨_, g1, .inl h⟩
  · simp at h; exact ⟨_, g2, .inl h⟩
  · simp at h; exact ⟨_, g2, .inl h⟩
theorem may_part {l m : List Va} (hm : m.length ≤ 1000000) (wm : ∀ x ∈ m, x.wf) (hl : l.length ≤ 1000000) (hsub : ∀ x ∈ l, x ∈ m) (v : Va) (hkm : ∀ x, goods m x → x.k = v.k) (op : Int) (hop : 0 ≤ op ∧ op ≤ 5) (h : zmay (ofZ l) op v = true) : zmay (ofZ m) op v = true := by
  have hkl : ∀ x, goods l x → x.k = v.k := fun x hx => hkm x ⟨hsub x hx.1, hx.2⟩
  obtain ⟨x, hx, h1 | ⟨rfl, y, hy, h3, h5⟩⟩ := may_witness (ends_of l hl) hkl hop h
  · exact zone_sound m hm wm op v x (hsub x hx.1) h1
  · have hE := ends_of m hm
    have hW := ofZ_wf m wm
    have gx : goods m x := ⟨hsub x hx.1, hx.2⟩
    have gy : goods m y := ⟨hsub y hy.1, hy.2⟩
    rcases hE.mn with ⟨_, e⟩ | ⟨g1, l1⟩
    · exact absurd gx (e x)
    rcases hE.mx with ⟨_, e⟩ | ⟨g2, l2⟩
    · exact absurd gx (e x)
    obtain ⟨okx, _, _, yx⟩ := holds_yes h3
    obtain ⟨oky, _, _, yy⟩ := holds_yes h5
    have m1 := vcmp_mono g1.2 gx.2 hW.2.2.2.1 (wm x gx.1) (by rw [hkm _ g1, hkm _ gx]) (l1 x gx) v
    have m2 := vcmp_mono gy.2 g2.2 (wm y gy.1) hW.2.2.2.2 (by rw [hkm _ gy, hkm _ g2]) (l2 y gy) v
    have ok1 : (vcmp (ofZ m).mn v).2 = true := by rw [m1.1]; exact okx
    have ok2 : (vcmp (ofZ m).mx v).2 = true := by rw [← m2.1]; exact oky
    have c1 := m1.2 ok1
    have c2 := m2.2 oky
    have yx' : (vcmp x v).1 ≤ 0 := by simpa [opYes] using yx
    have yy' : 0 ≤ (vcmp y v).1 := by simpa [opYes] using yy
    unfold zmay
    rw [if_neg g1.2.1, if_neg (by rw [hkm _ g1, hkm _ g2]; simp), if_pos rfl, yes_holds ok1 (by omega) (by omega) (show opYes 3 _ = true by simp [opYes]; omega), yes_holds ok2 (by omega) (by omega) (show opYes 5 _ = true by simp [opYes]; omega)]
    rfl

theorem holds_not_good {x v : Va} (h : ¬ good x) (op : Int) : zholds op x v ≠ 1 := fun e => h (vcmp_ok_good (holds_yes e).1)
theorem zone_one (op : Int) (x v : Va) (hx : rightV x = true) : zmay (ofZ [x]) op v = decide (zholds op x v = 1) := by
  have hz : ofZ [x] = joinZ Zo.zero (oneZ x) := rfl
  have hf : Zo.zero.Fine 0 := ⟨rfl, Int.le_refl _, Int.le_refl _, Int.le_refl _, Int.le_refl _, fun _ => rfl, fun _ => rfl⟩
  rw [hz, join_one hf (by omega)]
  by_cases h0 : x.k = 0 ∨ rightV x = false
  · rw [if_pos h0]
    have hg := holds_not_good (v := v) (not_good (by rcases h0 with h | h; exact .inl h; exact .inr (.inl h))) op
    rw [decide_eq_false hg]
    rfl
  rw [if_neg h0]
  by_cases hn : nanV x = true
  · rw [if_pos hn]
    have hg := holds_not_good (v := v) (not_good (.inr (.inr hn))) op
    rw [decide_eq_false hg]
    rfl
  rw [if_neg hn]
  have hk0 : x.k ≠ 0 := fun h => h0 (.inl h)
  unfold zmay
  simp only
  have e1 : (if Zo.zero.mn.k = 0 ∨ vorder x Zo.zero.mn = -1 then x else Zo.zero.mn) = x := if_pos (.inl rfl)
  have e2 : (if Zo.zero.mx.k = 0 ∨ vorder x Zo.zero.mx = 1 then x else Zo.zero.mx) = x := if_pos (.inl rfl)
  rw [e1, e2, if_neg hk0, if_neg (by simp)]
  have hh : ∀ o, zholds o x v = if (vcmp x v).2 = false ∨ o < 0 ∨ 5 < o then 2 else if opYes o (vcmp x v).1 = true then 1 else 0 := fun _ => rfl
  by_cases ho : 0 ≤ op ∧ op ≤ 5
  · cases hok : (vcmp x v).2
    · have hb : ∀ o, zholds o x v = 2 := fun o => by rw [hh, if_pos (.inl hok)]
      simp only [hb]
      repeat' split
      all_goals rfl
    · have hb : ∀ o, 0 ≤ o → o ≤ 5 → (zholds o x v = 1 ↔ opYes o (vcmp x v).1 = true) := fun o a b => by
        rw [hh, if_neg (by rw [hok]; simp; omega)]
        split <;> simp_all
      generalize (vcmp x v).1 = c at hb
      rcases (show op = 0 ∨ op = 1 ∨ op = 2 ∨ op = 3 ∨ op = 4 ∨ op = 5 by omega) with rfl | rfl | rfl | rfl | rfl | rfl
      · rw [if_pos rfl, ← Bool.decide_and]
        apply decide_eq_decide.2
        rw [hb 3 (by omega) (by omega), hb 5 (by omega) (by omega), hb 0 (by omega) (by omega)]
        simp [opYes]; omega
      · rw [if_neg (by omega), if_pos rfl, Bool.or_self]
      · rw [if_neg (by omega), if_neg (by omega), if_pos (by omega)]
      · rw [if_neg (by omega), if_neg (by omega), if_pos (by omega)]
      · rw [if_neg (by omega), if_neg (by omega), if_neg (by omega), if_pos (by omega)]
      · rw [if_neg (by omega), if_neg (by omega), if_neg (by omega), if_pos (by omega)]
  · rw [if_neg (by omega), if_neg (by omega), if_neg (by omega), if_neg (by omega), hh, if_pos (by right; omega)]
    rfl

theorem vcmp_anti (a b : Va) : vcmp b a = (-(vcmp a b).1, (vcmp a b).2) := by
  unfold vcmp
  generalize rightOf a = A
  generalize rightOf b = B
  by_cases h : A.k ≠ B.k ∨ A.k = 0
  · rw [if_pos h, if_pos (by rcases h with h | h; exact .inl (fun e => h e.symm); by_cases hb : B.k = 0; exact .inr hb; exact .inl (by omega))]
    rfl
  · have hk : A.k = B.k := Decidable.byContradiction fun e => h (.inl e)
    have h0 : A.k ≠ 0 := fun e => h (.inr e)
    rw [if_neg h, if_neg (by rintro (e | e); exact e hk.symm; omega), ← hk]
    by_cases h4 : A.k = 4
    · rw [if_pos h4, if_pos h4]
      unfold fcmp
      by_cases hn : fnan A.f = true ∨ fnan B.f = true
      · rw [if_pos hn, if_pos hn.symm]; rfl
      · rw [if_neg hn, if_neg (fun e => hn e.symm)]
        have : cmp3 (fkey B.f) (fkey A.f) = - cmp3 (fkey A.f) (fkey B.f) := (Cmp.of_key (fun x : Int => x)).anti (fkey A.f) (fkey B.f)
        rw [this]
    · rw [if_neg h4, if_neg h4]
      have : (if cmp3 B.n A.n = 0 then cmpS B.s A.s else cmp3 B.n A.n) = - (if cmp3 A.n B.n = 0 then cmpS A.s B.s else cmp3 A.n B.n) := (((Cmp.of_key (fun x : Va => x.n)).lex (cmpS_cmp.pull (fun x : Va => x.s)))).anti A B
      have e : ∀ x y : Va, orL [cmp3 x.n y.n, cmpS x.s y.s] = if cmp3 x.n y.n = 0 then cmpS x.s y.s else cmp3 x.n y.n := fun x y => by rw [orL_cons, orL_one]
      rw [e, e, this]
theorem flip_out {op : Int} (h : ¬ (0 ≤ op ∧ op ≤ 5)) : flipO op = op ∧ negO op = op := by
  unfold flipO negO tab6
  rw [if_neg (by omega), if_neg (by omega), if_neg (by omega), if_neg (by omega), if_neg (by omega), if_neg (by omega), if_neg (by omega), if_neg (by omega), if_neg (by omega), if_neg (by omega), if_neg (by omega), if_neg (by omega)]
  exact ⟨rfl, rfl⟩
theorem flip_flip (op : Int) : flipO (flipO op) = op := by
  by_cases ho : 0 ≤ op ∧ op ≤ 5
  · rcases (show op = 0 ∨ op = 1 ∨ op = 2 ∨ op = 3 ∨ op = 4 ∨ op = 5 by omega) with rfl | rfl | rfl | rfl | rfl | rfl
    all_goals rfl
  · rw [(flip_out ho).1, (flip_out ho).1]
theorem neg_neg' (op : Int) : negO (negO op) = op := by
  by_cases ho : 0 ≤ op ∧ op ≤ 5
  · rcases (show op = 0 ∨ op = 1 ∨ op = 2 ∨ op = 3 ∨ op = 4 ∨ op = 5 by omega) with rfl | rfl | rfl | rfl | rfl | rfl
    all_goals rfl
  · rw [(flip_out ho).2, (flip_out ho).2]
theorem holds_flip (op : Int) (a b : Va) : zholds (flipO op) b a = zholds op a b := by
  unfold zholds
  rw [vcmp_anti a b]
  simp only
  generalize (vcmp a b).1 = c
  generalize (vcmp a b).2 = ok
  by_cases ho : 0 ≤ op ∧ op ≤ 5
  · rcases (show op = 0 ∨ op = 1 ∨ op = 2 ∨ op = 3 ∨ op = 4 ∨ op = 5 by omega) with rfl | rfl | rfl | rfl | rfl | rfl
    all_goals
      cases ok
      · rfl
      · simp [flipO, tab6, opYes]
        try omega
  · rw [(flip_out ho).1, if_pos (by right; omega), if_pos (by right; omega)]
theorem holds_neg (op : Int) (a b : Va) : (if zholds (negO op) a b = 0 then (1 : Int) else if zholds (negO op) a b = 1 then 0 else 2) = zholds op a b := by
  unfold zholds
  generalize (vcmp a b).1 = c
  generalize (vcmp a b).2 = ok
  by_cases ho : 0 ≤ op ∧ op ≤ 5
  · rcases (show op = 0 ∨ op = 1 ∨ op = 2 ∨ op = 3 ∨ op = 4 ∨ op = 5 by omega) with rfl | rfl | rfl | rfl | rfl | rfl
    all_goals
      cases ok
      · rfl
      · simp [negO, tab6, opYes]
        repeat' split
        all_goals omega
  · have h2 : (if ok = false ∨ op < 0 ∨ 5 < op then (2 : Int) else if opYes op c = true then 1 else 0) = 2 := if_pos (by right; omega)
    rw [(flip_out ho).2, h2]
    rfl
end Go.Proofs.Ytmhmpnbcjcmnnaa
