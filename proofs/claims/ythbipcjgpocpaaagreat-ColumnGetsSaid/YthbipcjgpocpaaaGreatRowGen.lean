/- What a row's arguments read as, type by type: structs, arrays and slices within one another. -/
import Derived.Test.YthbipcjgpocpaaaGreatRowWide
namespace Go.Proofs.YthbipcjgpocpaaaGreat
open Go.ChangeShapes Go.WideShapes Go.ChangeAt Go.RowKit
set_option linter.unusedSimpArgs false
set_option linter.unusedVariables false

section
variable {H : Type} {enc : TypeId × Value → H} {P : Program} {w : World} {base : Nat} {held : Bool}

/-- No string or slice in it takes more than the form's reach. -/
def light (P : Program) (t : TypeId) (d : DataW H) : Prop := ∀ n ∈ d.weights P t, n ≤ 140737488351232
theorem light_arg {ts : List TypeId} {ds : List (DataW H)} (h : (DataW.weightsEach P ts ds).all (· ≤ reachBytes) = true) {j : Nat} {t : TypeId} {d : DataW H} (ht : ts[j]? = some t) (hd : ds[j]? = some d) : light P t d := by
  intro n hn
  have := List.all_eq_true.1 h _ (DataW.weights_mem_each ht hd n hn)
  have h3 : reachBytes = 140737488351232 := by decide
  simp at this
  omega
theorem light_struct {t : TypeId} {fs : Array Field} {parts : List (DataW H)} (hu : P.underlying t = some (.struct fs)) (h : light P t (.agg parts)) {j : Nat} {f : Field} {d : DataW H} (hf : fs[j]? = some f) (hd : parts[j]? = some d) : light P f.type d := by
  intro n hn
  refine h n ?_
  simp only [DataW.weights, hu]
  exact DataW.weights_mem_each (j := j) (t := f.type) (by simp [hf]) hd n hn
theorem light_all {e : TypeId} : ∀ (l : List (DataW H)), (∀ n ∈ DataW.weightsAll P e l, n ≤ 140737488351232) → ∀ d ∈ l, light P e d
  | [], _, _, h => by simp at h
  | x :: r, h, d, hd => by
    simp only [DataW.weightsAll, List.mem_append] at h
    rcases List.mem_cons.1 hd with rfl | hd
    · exact fun n hn => h n (.inl hn)
    · exact light_all r (fun n hn => h n (.inr hn)) d hd
theorem light_array {t e : TypeId} {n : Nat} {parts : List (DataW H)} (hu : P.underlying t = some (.array n e)) (h : light P t (.agg parts)) : ∀ d ∈ parts, light P e d := by
  refine light_all parts (fun n hn => h n ?_)
  simp only [DataW.weights, hu]
  exact hn
theorem light_slice {t e : TypeId} {el sp : List (DataW H)} (hu : P.underlying t = some (.slice e)) (h : light P t (.slice el sp)) : (el.length + sp.length) * P.bytesOf e ≤ 140737488351232 ∧ ∀ d ∈ el, light P e d := by
  constructor
  · refine h _ ?_
    simp only [DataW.weights, hu]
    exact List.mem_cons_self
  · refine light_all el (fun n hn => h n ?_)
    simp only [DataW.weights, hu]
    exact List.mem_cons_of_mem _ (List.mem_append.2 (.inl hn))

/-- Whatever reads as of type e is the k cells 'f x' of some x of which G holds. -/
def TRd {α : Type} (enc : TypeId × Value → H) (P : Program) (w : World) (base : Nat) (held : Bool) (e : TypeId) (k : Nat) (f : α → List Value) (G : α → Prop) : Prop :=
  P.cellsOf e = k ∧ (∀ x, (f x).length = k) ∧ ∀ q cs y, DataW.trod enc P w base (fun _ => true) held q e cs = some y → light P e y.1 → ∃ x, cs = f x ∧ G x

theorem rd_i64 {e : TypeId} (he : P.underlying e = some (.int .i64)) (hc : P.cellsOf e = 1) : TRd enc P w base held e 1 (fun x : I64 => [i64V x]) (fun _ => True) :=
  ⟨hc, fun _ => rfl, fun q cs y h _ => by
    obtain ⟨n, hcs, _, hw⟩ := DataW.trod_int he h
    exact ⟨⟨n, hw⟩, hcs, trivial⟩⟩
/-- A number of uint64. -/
abbrev U64 := {n : Int // (Lit.int .u64 n).wf = true}
def u64V (x : U64) : Value := .int .u64 x.1
theorem rd_u64 {e : TypeId} (he : P.underlying e = some (.int .u64)) (hc : P.cellsOf e = 1) : TRd enc P w base held e 1 (fun x : U64 => [u64V x]) (fun _ => True) :=
  ⟨hc, fun _ => rfl, fun q cs y h _ => by
    obtain ⟨n, hcs, _, hw⟩ := DataW.trod_int he h
    exact ⟨⟨n, hw⟩, hcs, trivial⟩⟩
theorem rd_byte {e : TypeId} (he : P.underlying e = some (.int .u8)) (hc : P.cellsOf e = 1) : TRd enc P w base held e 1 (fun x : UInt8 => [byteV x]) (fun _ => True) :=
  ⟨hc, fun _ => rfl, fun q cs y h _ => by
    obtain ⟨n, hcs, _, hw⟩ := DataW.trod_int he h
    subst hcs
    obtain ⟨a, ha⟩ := of_byte he q _ y h
    exact ⟨a, by rw [ha], trivial⟩⟩
theorem rd_bool {e : TypeId} (he : P.underlying e = some .bool) (hc : P.cellsOf e = 1) : TRd enc P w base held e 1 (fun x : Bool => [Value.bool x]) (fun _ => True) :=
  ⟨hc, fun _ => rfl, fun q cs y h _ => by
    obtain ⟨b, hcs, _⟩ := DataW.trod_bool he h
    exact ⟨b, hcs, trivial⟩⟩
theorem rd_string {e : TypeId} (he : P.underlying e = some .string) (hc : P.cellsOf e = 1) : TRd enc P w base held e 1 (fun x : ByteArray => [Value.string x]) (fun x => x.size ≤ 140737488351232) :=
  ⟨hc, fun _ => rfl, fun q cs y h hw => by
    obtain ⟨s, hcs, hy, hm⟩ := DataW.trod_string he h
    refine ⟨s, hcs, ?_⟩
    subst hy
    have := hw s.data.toList.length (by simp [DataW.weights])
    simpa using this⟩

theorem cut_list {α : Type} (l : List α) (a b : Nat) (h : l.length = a + b) : l = l.take a ++ (l.drop a).take b := by
  rw [List.take_of_length_le (l := l.drop a) (by rw [List.length_drop]; omega), List.take_append_drop]

/-- A struct of two fields. -/
theorem rd_struct2 {α β : Type} {e : TypeId} {f0 f1 : Field} {k0 k1 : Nat} {g0 : α → List Value} {g1 : β → List Value} {G0 : α → Prop} {G1 : β → Prop} (he : P.underlying e = some (.struct #[f0, f1])) (hc : P.cellsOf e = k0 + k1)
    (h0 : TRd enc P w base held f0.type k0 g0 G0) (h1 : TRd enc P w base held f1.type k1 g1 G1) (o0 : f0.offset = 0) (o1 : f1.offset = k0) :
    TRd enc P w base held e (k0 + k1) (fun x : α × β => g0 x.1 ++ g1 x.2) (fun x => G0 x.1 ∧ G1 x.2) := by
  refine ⟨hc, fun x => by rw [List.length_append, h0.2.1, h1.2.1], fun q cs y h hw => ?_⟩
  obtain ⟨xs, n, _, hy, hlen, hxl, hat⟩ := DataW.trod_struct he h
  subst hy
  rw [hc] at hlen
  match xs, hxl with
  | [y0, y1], _ =>
    have e0 := hat 0 f0 rfl
    have e1 := hat 1 f1 rfl
    rw [o0, h0.1, List.drop_zero] at e0
    rw [o1, h1.1] at e1
    obtain ⟨a0, c0, p0⟩ := h0.2.2 n _ y0 (by simpa using e0) (light_struct (j := 0) he hw rfl rfl)
    obtain ⟨a1, c1, p1⟩ := h1.2.2 n _ y1 (by simpa using e1) (light_struct (j := 1) he hw rfl rfl)
    refine ⟨(a0, a1), ?_, p0, p1⟩
    have := cut_list cs k0 k1 hlen
    rw [c0, c1] at this
    exact this

/-- A struct of three fields. -/
theorem rd_struct3 {α β γ : Type} {e : TypeId} {f0 f1 f2 : Field} {k0 k1 k2 : Nat} {g0 : α → List Value} {g1 : β → List Value} {g2 : γ → List Value} {G0 : α → Prop} {G1 : β → Prop} {G2 : γ → Prop}
    (he : P.underlying e = some (.struct #[f0, f1, f2])) (hc : P.cellsOf e = k0 + (k1 + k2))
    (h0 : TRd enc P w base held f0.type k0 g0 G0) (h1 : TRd enc P w base held f1.type k1 g1 G1) (h2 : TRd enc P w base held f2.type k2 g2 G2) (o0 : f0.offset = 0) (o1 : f1.offset = k0) (o2 : f2.offset = k0 + k1) :
    TRd enc P w base held e (k0 + (k1 + k2)) (fun x : α × β × γ => g0 x.1 ++ (g1 x.2.1 ++ g2 x.2.2)) (fun x => G0 x.1 ∧ G1 x.2.1 ∧ G2 x.2.2) := by
  refine ⟨hc, fun x => by simp only [List.length_append, h0.2.1, h1.2.1, h2.2.1], fun q cs y h hw => ?_⟩
  obtain ⟨xs, n, _, hy, hlen, hxl, hat⟩ := DataW.trod_struct he h
  subst hy
  rw [hc] at hlen
  match xs, hxl with
  | [y0, y1, y2], _ =>
    have e0 := hat 0 f0 rfl
    have e1 := hat 1 f1 rfl
    have e2 := hat 2 f2 rfl
    rw [o0, h0.1, List.drop_zero] at e0
    rw [o1, h1.1] at e1
    rw [o2, h2.1] at e2
    obtain ⟨a0, c0, p0⟩ := h0.2.2 n _ y0 (by simpa using e0) (light_struct (j := 0) he hw rfl rfl)
    obtain ⟨a1, c1, p1⟩ := h1.2.2 n _ y1 (by simpa using e1) (light_struct (j := 1) he hw rfl rfl)
    obtain ⟨a2, c2, p2⟩ := h2.2.2 n _ y2 (by simpa using e2) (light_struct (j := 2) he hw rfl rfl)
    refine ⟨(a0, a1, a2), ?_, p0, p1, p2⟩
    have t0 := cut_list cs k0 (k1 + k2) hlen
    have t1 := cut_list (cs.drop k0) k1 k2 (by rw [List.length_drop]; omega)
    rw [List.drop_drop] at t1
    rw [List.take_of_length_le (l := cs.drop k0) (by rw [List.length_drop]; omega), t1, c0, c1, c2] at t0
    exact t0

/-- A struct of four fields. -/
theorem rd_struct4 {α β γ δ : Type} {e : TypeId} {f0 f1 f2 f3 : Field} {k0 k1 k2 k3 : Nat} {g0 : α → List Value} {g1 : β → List Value} {g2 : γ → List Value} {g3 : δ → List Value} {G0 : α → Prop} {G1 : β → Prop} {G2 : γ → Prop} {G3 : δ → Prop}
    (he : P.underlying e = some (.struct #[f0, f1, f2, f3])) (hc : P.cellsOf e = k0 + (k1 + (k2 + k3)))
    (h0 : TRd enc P w base held f0.type k0 g0 G0) (h1 : TRd enc P w base held f1.type k1 g1 G1) (h2 : TRd enc P w base held f2.type k2 g2 G2) (h3 : TRd enc P w base held f3.type k3 g3 G3)
    (o0 : f0.offset = 0) (o1 : f1.offset = k0) (o2 : f2.offset = k0 + k1) (o3 : f3.offset = k0 + k1 + k2) :
    TRd enc P w base held e (k0 + (k1 + (k2 + k3))) (fun x : α × β × γ × δ => g0 x.1 ++ (g1 x.2.1 ++ (g2 x.2.2.1 ++ g3 x.2.2.2))) (fun x => G0 x.1 ∧ G1 x.2.1 ∧ G2 x.2.2.1 ∧ G3 x.2.2.2) := by
  refine ⟨hc, fun x => by simp only [List.length_append, h0.2.1, h1.2.1, h2.2.1, h3.2.1], fun q cs y h hw => ?_⟩
  obtain ⟨xs, n, _, hy, hlen, hxl, hat⟩ := DataW.trod_struct he h
  subst hy
  rw [hc] at hlen
  match xs, hxl with
  | [y0, y1, y2, y3], _ =>
    have e0 := hat 0 f0 rfl
    have e1 := hat 1 f1 rfl
    have e2 := hat 2 f2 rfl
    have e3 := hat 3 f3 rfl
    rw [o0, h0.1, List.drop_zero] at e0
    rw [o1, h1.1] at e1
    rw [o2, h2.1] at e2
    rw [o3, h3.1] at e3
    obtain ⟨a0, c0, p0⟩ := h0.2.2 n _ y0 (by simpa using e0) (light_struct (j := 0) he hw rfl rfl)
    obtain ⟨a1, c1, p1⟩ := h1.2.2 n _ y1 (by simpa using e1) (light_struct (j := 1) he hw rfl rfl)
    obtain ⟨a2, c2, p2⟩ := h2.2.2 n _ y2 (by simpa using e2) (light_struct (j := 2) he hw rfl rfl)
    obtain ⟨a3, c3, p3⟩ := h3.2.2 n _ y3 (by simpa using e3) (light_struct (j := 3) he hw rfl rfl)
    refine ⟨(a0, a1, a2, a3), ?_, p0, p1, p2, p3⟩
    have t0 := cut_list cs k0 (k1 + (k2 + k3)) hlen
    have t1 := cut_list (cs.drop k0) k1 (k2 + k3) (by rw [List.length_drop]; omega)
    have t2 := cut_list (cs.drop (k0 + k1)) k2 k3 (by rw [List.length_drop]; omega)
    rw [List.drop_drop] at t1 t2
    rw [List.take_of_length_le (l := cs.drop (k0 + k1)) (by rw [List.length_drop]; omega), t2] at t1
    rw [List.take_of_length_le (l := cs.drop k0) (by rw [List.length_drop]; omega), t1, c0, c1, c2, c3] at t0
    exact t0

/-- A struct of five fields. -/
theorem rd_struct5 {α β γ δ ε : Type} {e : TypeId} {f0 f1 f2 f3 f4 : Field} {k0 k1 k2 k3 k4 : Nat} {g0 : α → List Value} {g1 : β → List Value} {g2 : γ → List Value} {g3 : δ → List Value} {g4 : ε → List Value}
    {G0 : α → Prop} {G1 : β → Prop} {G2 : γ → Prop} {G3 : δ → Prop} {G4 : ε → Prop}
    (he : P.underlying e = some (.struct #[f0, f1, f2, f3, f4])) (hc : P.cellsOf e = k0 + (k1 + (k2 + (k3 + k4))))
    (h0 : TRd enc P w base held f0.type k0 g0 G0) (h1 : TRd enc P w base held f1.type k1 g1 G1) (h2 : TRd enc P w base held f2.type k2 g2 G2) (h3 : TRd enc P w base held f3.type k3 g3 G3) (h4 : TRd enc P w base held f4.type k4 g4 G4)
    (o0 : f0.offset = 0) (o1 : f1.offset = k0) (o2 : f2.offset = k0 + k1) (o3 : f3.offset = k0 + k1 + k2) (o4 : f4.offset = k0 + k1 + k2 + k3) :
    TRd enc P w base held e (k0 + (k1 + (k2 + (k3 + k4)))) (fun x : α × β × γ × δ × ε => g0 x.1 ++ (g1 x.2.1 ++ (g2 x.2.2.1 ++ (g3 x.2.2.2.1 ++ g4 x.2.2.2.2)))) (fun x => G0 x.1 ∧ G1 x.2.1 ∧ G2 x.2.2.1 ∧ G3 x.2.2.2.1 ∧ G4 x.2.2.2.2) := by
  refine ⟨hc, fun x => by simp only [List.length_append, h0.2.1, h1.2.1, h2.2.1, h3.2.1, h4.2.1], fun q cs y h hw => ?_⟩
  obtain ⟨xs, n, _, hy, hlen, hxl, hat⟩ := DataW.trod_struct he h
  subst hy
  rw [hc] at hlen
  match xs, hxl with
  | [y0, y1, y2, y3, y4], _ =>
    have e0 := hat 0 f0 rfl
    have e1 := hat 1 f1 rfl
    have e2 := hat 2 f2 rfl
    have e3 := hat 3 f3 rfl
    have e4 := hat 4 f4 rfl
    rw [o0, h0.1, List.drop_zero] at e0
    rw [o1, h1.1] at e1
    rw [o2, h2.1] at e2
    rw [o3, h3.1] at e3
    rw [o4, h4.1] at e4
    obtain ⟨a0, c0, p0⟩ := h0.2.2 n _ y0 (by simpa using e0) (light_struct (j := 0) he hw rfl rfl)
    obtain ⟨a1, c1, p1⟩ := h1.2.2 n _ y1 (by simpa using e1) (light_struct (j := 1) he hw rfl rfl)
    obtain ⟨a2, c2, p2⟩ := h2.2.2 n _ y2 (by simpa using e2) (light_struct (j := 2) he hw rfl rfl)
    obtain ⟨a3, c3, p3⟩ := h3.2.2 n _ y3 (by simpa using e3) (light_struct (j := 3) he hw rfl rfl)
    obtain ⟨a4, c4, p4⟩ := h4.2.2 n _ y4 (by simpa using e4) (light_struct (j := 4) he hw rfl rfl)
    refine ⟨(a0, a1, a2, a3, a4), ?_, p0, p1, p2, p3, p4⟩
    have t0 := cut_list cs k0 (k1 + (k2 + (k3 + k4))) hlen
    have t1 := cut_list (cs.drop k0) k1 (k2 + (k3 + k4)) (by rw [List.length_drop]; omega)
    have t2 := cut_list (cs.drop (k0 + k1)) k2 (k3 + k4) (by rw [List.length_drop]; omega)
    have t3 := cut_list (cs.drop (k0 + k1 + k2)) k3 k4 (by rw [List.length_drop]; omega)
    rw [List.drop_drop] at t1 t2 t3
    rw [List.take_of_length_le (l := cs.drop (k0 + k1 + k2)) (by rw [List.length_drop]; omega), t3] at t2
    rw [List.take_of_length_le (l := cs.drop (k0 + k1)) (by rw [List.length_drop]; omega), t2] at t1
    rw [List.take_of_length_le (l := cs.drop k0) (by rw [List.length_drop]; omega), t1, c0, c1, c2, c3, c4] at t0
    exact t0

/-- A struct of six fields. -/
theorem rd_struct6 {α β γ δ ε ζ : Type} {e : TypeId} {f0 f1 f2 f3 f4 f5 : Field} {k0 k1 k2 k3 k4 k5 : Nat} {g0 : α → List Value} {g1 : β → List Value} {g2 : γ → List Value} {g3 : δ → List Value} {g4 : ε → List Value} {g5 : ζ → List Value}
    {G0 : α → Prop} {G1 : β → Prop} {G2 : γ → Prop} {G3 : δ → Prop} {G4 : ε → Prop} {G5 : ζ → Prop}
    (he : P.underlying e = some (.struct #[f0, f1, f2, f3, f4, f5])) (hc : P.cellsOf e = k0 + (k1 + (k2 + (k3 + (k4 + (k5))))))
    (h0 : TRd enc P w base held f0.type k0 g0 G0) (h1 : TRd enc P w base held f1.type k1 g1 G1) (h2 : TRd enc P w base held f2.type k2 g2 G2) (h3 : TRd enc P w base held f3.type k3 g3 G3) (h4 : TRd enc P w base held f4.type k4 g4 G4) (h5 : TRd enc P w base held f5.type k5 g5 G5)
    (o0 : f0.offset = 0) (o1 : f1.offset = k0) (o2 : f2.offset = k0 + k1) (o3 : f3.offset = k0 + k1 + k2) (o4 : f4.offset = k0 + k1 + k2 + k3) (o5 : f5.offset = k0 + k1 + k2 + k3 + k4) :
    TRd enc P w base held e (k0 + (k1 + (k2 + (k3 + (k4 + (k5)))))) (fun x : α × β × γ × δ × ε × ζ => g0 x.1 ++ (g1 x.2.1 ++ (g2 x.2.2.1 ++ (g3 x.2.2.2.1 ++ (g4 x.2.2.2.2.1 ++ (g5 x.2.2.2.2.2)))))) (fun x => G0 x.1 ∧ G1 x.2.1 ∧ G2 x.2.2.1 ∧ G3 x.2.2.2.1 ∧ G4 x.2.2.2.2.1 ∧ G5 x.2.2.2.2.2) := by
  refine ⟨hc, fun x => by simp only [List.length_append, h0.2.1, h1.2.1, h2.2.1, h3.2.1, h4.2.1, h5.2.1], fun q cs y h hw => ?_⟩
  obtain ⟨xs, n, _, hy, hlen, hxl, hat⟩ := DataW.trod_struct he h
  subst hy
  rw [hc] at hlen
  match xs, hxl with
  | [y0, y1, y2, y3, y4, y5], _ =>
    have e0 := hat 0 f0 rfl
    have e1 := hat 1 f1 rfl
    have e2 := hat 2 f2 rfl
    have e3 := hat 3 f3 rfl
    have e4 := hat 4 f4 rfl
    have e5 := hat 5 f5 rfl
    rw [o0, h0.1, List.drop_zero] at e0
    rw [o1, h1.1] at e1
    rw [o2, h2.1] at e2
    rw [o3, h3.1] at e3
    rw [o4, h4.1] at e4
    rw [o5, h5.1] at e5
    obtain ⟨a0, c0, p0⟩ := h0.2.2 n _ y0 (by simpa using e0) (light_struct (j := 0) he hw rfl rfl)
    obtain ⟨a1, c1, p1⟩ := h1.2.2 n _ y1 (by simpa using e1) (light_struct (j := 1) he hw rfl rfl)
    obtain ⟨a2, c2, p2⟩ := h2.2.2 n _ y2 (by simpa using e2) (light_struct (j := 2) he hw rfl rfl)
    obtain ⟨a3, c3, p3⟩ := h3.2.2 n _ y3 (by simpa using e3) (light_struct (j := 3) he hw rfl rfl)
    obtain ⟨a4, c4, p4⟩ := h4.2.2 n _ y4 (by simpa using e4) (light_struct (j := 4) he hw rfl rfl)
    obtain ⟨a5, c5, p5⟩ := h5.2.2 n _ y5 (by simpa using e5) (light_struct (j := 5) he hw rfl rfl)
    refine ⟨(a0, a1, a2, a3, a4, a5), ?_, p0, p1, p2, p3, p4, p5⟩
    have t0 := cut_list cs k0 (k1 + (k2 + (k3 + (k4 + (k5))))) hlen
    have t1 := cut_list (cs.drop k0) k1 (k2 + (k3 + (k4 + (k5)))) (by rw [List.length_drop]; omega)
    have t2 := cut_list (cs.drop (k0 + k1)) k2 (k3 + (k4 + (k5))) (by rw [List.length_drop]; omega)
    have t3 := cut_list (cs.drop (k0 + k1 + k2)) k3 (k4 + (k5)) (by rw [List.length_drop]; omega)
    have t4 := cut_list (cs.drop (k0 + k1 + k2 + k3)) k4 k5 (by rw [List.length_drop]; omega)
    rw [List.drop_drop] at t1 t2 t3 t4
    rw [List.take_of_length_le (l := cs.drop (k0 + k1 + k2 + k3)) (by rw [List.length_drop]; omega), t4] at t3
    rw [List.take_of_length_le (l := cs.drop (k0 + k1 + k2)) (by rw [List.length_drop]; omega), t3] at t2
    rw [List.take_of_length_le (l := cs.drop (k0 + k1)) (by rw [List.length_drop]; omega), t2] at t1
    rw [List.take_of_length_le (l := cs.drop k0) (by rw [List.length_drop]; omega), t1, c0, c1, c2, c3, c4, c5] at t0
    exact t0

/-- An array of two. -/
theorem rd_array2 {α : Type} {t e : TypeId} {k : Nat} {g : α → List Value} {G : α → Prop} (he : P.underlying t = some (.array 2 e)) (hc : P.cellsOf t = k + k) (h0 : TRd enc P w base held e k g G) :
    TRd enc P w base held t (k + k) (fun x : α × α => g x.1 ++ g x.2) (fun x => G x.1 ∧ G x.2) := by
  refine ⟨hc, fun x => by simp only [List.length_append, h0.2.1], fun q cs y h hw => ?_⟩
  obtain ⟨xs, n, _, hy, hlen, hxl, hat⟩ := DataW.trod_array he h
  subst hy
  rw [hc] at hlen
  match xs, hxl with
  | [y0, y1], _ =>
    have e0 := hat 0 (by decide)
    have e1 := hat 1 (by decide)
    rw [h0.1, Nat.zero_mul, List.drop_zero] at e0
    rw [h0.1, Nat.one_mul] at e1
    obtain ⟨a0, c0, p0⟩ := h0.2.2 n _ y0 (by simpa using e0) (light_array he hw _ (by simp))
    obtain ⟨a1, c1, p1⟩ := h0.2.2 n _ y1 (by simpa using e1) (light_array he hw _ (by simp))
    refine ⟨(a0, a1), ?_, p0, p1⟩
    have := cut_list cs k k hlen
    rw [c0, c1] at this
    exact this

/-- A slice, as one cell. -/
theorem rd_slice {α : Type} {t e : TypeId} {k : Nat} {g : α → List Value} {G : α → Prop} (d : α) (bytes : Nat) (ht : P.underlying t = some (.slice e)) (hc : P.cellsOf t = 1) (hbb : P.bytesOf e = bytes) (h0 : TRd enc P w base held e k g G) :
    TRd enc P w base held t 1 (fun x : Option Addr × Nat × Nat × List α => [.slice x.1 x.2.1 x.2.2.1]) (fun x => SlK w k x.1 x.2.1 x.2.2.1 (x.2.2.2.map g) ∧ (∀ u ∈ x.2.2.2, G u) ∧ x.2.1 * bytes ≤ 140737488351232) := by
  refine ⟨hc, fun _ => rfl, fun q cs y h hw => ?_⟩
  rcases Go.Deep.open_slice ht h with ⟨hcs, hx⟩ | ⟨ad, len, cap, m, q, D, Pl, hcs, _, hl, hm, hmm, hx, hel⟩
  · exact ⟨(none, 0, 0, []), hcs, SlK.none w k, by simp, by simp⟩
  · have hmc : m = cap := by simpa using hmm
    subst hmc
    rw [h0.1] at hel
    subst hx
    obtain ⟨hw1, hw2⟩ := light_slice ht hw
    have hg : ∀ i, ∃ y : α, i < len → w.cells? base (ad.add (i * k)) k = some (g y) ∧ G y := by
      intro i
      by_cases hi : i < len
      · obtain ⟨cs', h1, h2⟩ := hel i (by omega)
        obtain ⟨y, hy, hG⟩ := h0.2.2 _ _ _ h2 (hw2 _ (List.mem_map.2 ⟨i, by simpa using hi, rfl⟩))
        exact ⟨y, fun _ => ⟨hy ▸ h1, hG⟩⟩
      · exact ⟨d, fun h => absurd h hi⟩
    refine ⟨(some ad, len, m, (List.range len).map fun i => (hg i).choose), hcs, ⟨by simp, hl, hm, fun h => by simp at h, ?_, fun i hi j hj => ?_⟩, ?_, ?_⟩
    · intro u hu
      obtain ⟨y, _, rfl⟩ := List.mem_map.1 hu
      exact h0.2.1 y
    · obtain ⟨_, _, hat⟩ := World.cells?_some ((hg i).choose_spec hi).1
      rw [Option.getD_some, ← Go.Deep.add_add, hat j hj]
      simp [show i < len from hi]
    · intro u hu
      obtain ⟨i, hi, rfl⟩ := List.mem_map.1 hu
      exact ((hg i).choose_spec (by simpa using hi)).2
    · rw [hbb] at hw1
      simp at hw1
      show len * bytes ≤ _
      exact Nat.le_trans (Nat.mul_le_mul_right _ (by omega)) hw1

/-- A slice that comes in, with what its weight bounds. -/
theorem arg_slice_R {α : Type} {t e : TypeId} {k : Nat} {g : α → List Value} {G : α → Prop} {a : Option Addr} {n c : Nat} {x : DataW H × List MemPlace} (d : α) (bytes : Nat) (hbb : P.bytesOf e = bytes) (ht : P.underlying t = some (.slice e)) (h0 : TRd enc P w base held e k g G)
    {fuel : Nat} (h : DataW.trod enc P w base (fun _ => true) held fuel t [.slice a n c] = some x) (hw : light P t x.1) :
    ∃ xs : List α, SlK w k a n c (xs.map g) ∧ (∀ u ∈ xs, G u) ∧ n * bytes ≤ 140737488351232 := by
  rcases Go.Deep.open_slice ht h with ⟨hcs, hx⟩ | ⟨ad, len, cap, m, q, D, Pl, hcs, _, hl, hm, hmm, hx, hel⟩
  · simp only [List.cons.injEq, and_true, Value.slice.injEq] at hcs
    obtain ⟨rfl, rfl, rfl⟩ := hcs
    exact ⟨[], SlK.none w k, by simp, by simp⟩
  · simp only [List.cons.injEq, and_true, Value.slice.injEq] at hcs
    obtain ⟨rfl, rfl, rfl⟩ := hcs
    have hmc : m = c := by simpa using hmm
    subst hmc
    rw [h0.1] at hel
    subst hx
    obtain ⟨hw1, hw2⟩ := light_slice ht hw
    have hg : ∀ i, ∃ y : α, i < n → w.cells? base (ad.add (i * k)) k = some (g y) ∧ G y := by
      intro i
      by_cases hi : i < n
      · obtain ⟨cs', h1, h2⟩ := hel i (by omega)
        obtain ⟨y, hy, hG⟩ := h0.2.2 _ _ _ h2 (hw2 _ (List.mem_map.2 ⟨i, by simpa using hi, rfl⟩))
        exact ⟨y, fun _ => ⟨hy ▸ h1, hG⟩⟩
      · exact ⟨d, fun h => absurd h hi⟩
    refine ⟨(List.range n).map fun i => (hg i).choose, ⟨by simp, hl, hm, fun h => by simp at h, ?_, fun i hi j hj => ?_⟩, ?_, ?_⟩
    · intro u hu
      obtain ⟨y, _, rfl⟩ := List.mem_map.1 hu
      exact h0.2.1 y
    · obtain ⟨_, _, hat⟩ := World.cells?_some ((hg i).choose_spec hi).1
      rw [Option.getD_some, ← Go.Deep.add_add, hat j hj]
      simp [hi]
    · intro u hu
      obtain ⟨i, hi, rfl⟩ := List.mem_map.1 hu
      exact ((hg i).choose_spec (by simpa using hi)).2
    · rw [hbb] at hw1
      simp at hw1
      exact Nat.le_trans (Nat.mul_le_mul_right _ (by omega)) hw1

/-- A struct or array that comes in by value. -/
theorem okWide_agg {t : TypeId} {v : Value} {r : Reach} {b0 : Nat} (hd : (match P.underlying t with | some (.struct _) => true | some (.array _ _) => true | _ => false) = true) (h : Value.okWide P w r b0 t v) : ∃ cs, v = .agg cs := by
  revert h hd
  cases hu : P.underlying t with
  | none => intro hd; simp at hd
  | some d =>
    cases d <;> intro hd h <;> simp at hd
    · simp only [Value.okWide, hu] at h
      obtain ⟨cs, h1, _⟩ := h
      exact ⟨cs, h1⟩
    · simp only [Value.okWide, hu] at h
      obtain ⟨cs, h1, _⟩ := h
      exact ⟨cs, h1⟩
theorem arg_agg_R {α : Type} {t : TypeId} {k : Nat} {g : α → List Value} {G : α → Prop} {r : Reach} {b0 : Nat} {v : Value} {d : DataW H} {p : List MemPlace} (hd : (match P.underlying t with | some (.struct _) => true | some (.array _ _) => true | _ => false) = true)
    (h0 : TRd enc P w base held t k g G) (hv : Value.okWide P w r b0 t v) (h : DataW.Trod enc P w base (fun _ => true) held t v d p) (hw : light P t d) : ∃ x, v = .agg (g x).toArray ∧ G x := by
  obtain ⟨cs, rfl⟩ := okWide_agg hd hv
  obtain ⟨fuel, hf⟩ := h
  obtain ⟨x, hx, hG⟩ := h0.2.2 _ _ _ hf hw
  refine ⟨x, ?_, hG⟩
  have : cs.toList = g x := by simpa [Value.cells] using hx
  rw [← this]
end
end Go.Proofs.YthbipcjgpocpaaaGreat
