/- dict.Get. -/
import Derived.Test.YthbipcjgpocpaaaGreatDict
import Derived.Deep.DeepCutAuto
import Derived.Deep.CutBlock
namespace Go.Proofs.YthbipcjgpocpaaaGreat
open Go.RowKit
set_option linter.unusedSimpArgs false
set_option linter.unusedVariables false
set_option maxRecDepth 100000

theorem bitsGet_len {b : List UInt8} {n : Int} {l : List Int} (h : bitsGet b n = some l) : (l.length : Int) = n := by
  unfold bitsGet at h
  split at h
  · cases h
  rename_i h0
  unfold getN at h
  split at h
  · rename_i h1
    split at h
    · injection h with h; subst h; simp; omega
    · cases h
  · split at h
    · cases h
    · unfold getB at h
      split at h
      · cases h
      · split at h
        · cases h
        · split at h
          · cases h
          · unfold chk at h
            split at h
            · injection h with h; subst h; rw [outOf_length]; omega
            · cases h
theorem dgetL_cut {b : List UInt8} {n : Int} {c : Nat} {r : List UInt8} (h0 : 0 ≤ n) (h1 : n ≤ 256) (hg : natGo 0 0 b = some (c, r)) :
    dgetL b n = match rdTexts (min c 257) r with | none => none | some (W, r2) => dgetW b n W r2 := by
  unfold dgetL
  rw [if_neg (by omega), hg]
  simp only
  by_cases hc : 256 < c
  · rw [if_pos hc]
    cases rdTexts (min c 257) r with
    | none => rfl
    | some p =>
      obtain ⟨W, r2⟩ := p
      simp only
      unfold dgetW
      cases hb : bitsGet r2 n with
      | none => rfl
      | some l =>
        simp only
        have hl := bitsGet_len hb
        split
        · unfold dchk
          rw [if_neg]
          intro e
          have ho : (outW W l).length = l.length := by simp [outW]
          have h2 := dput_head (outW W l) b c r (by omega) hg e
          have h3 := wordsL_len (outW W l)
          omega
        · rfl
  · rw [if_neg hc, Nat.min_eq_left (by omega)]
    rfl
theorem rtext_q (b sb : Nat) (rest : List UInt8) (w : World) (h : Rds w b sb (some rest)) :
    Calls Tryz.prog 58 #[.pointer (some ⟨b, 0, none⟩)] w fun e w' => ∃ (V : Tx) (B : Bool) (st' : Option (List UInt8)), e = .returned (.tuple #[.string ⟨V.toArray⟩, .bool B]) ∧ Rds w' b sb st' ∧ Keeps (· = b) w w' ∧ V.length ≤ rest.length ∧
      Hid ((B = true → ∃ r, st' = some r ∧ rest = nat7 V.length ++ V ++ r ∧ ∀ k, rdTexts (k + 1) rest = (rdTexts k r).map fun p => (V :: p.1, p.2)) ∧ (B = false → ∀ k, rdTexts (k + 1) rest = none)) := by
  refine (rtext_any b sb (some rest) w h).mono ?_
  intro e w1 h1
  have he : rdNat (some rest) = natGo 0 0 rest := rfl
  rw [he] at h1
  cases hr : natGo 0 0 rest with
  | none =>
    rw [hr] at h1
    obtain ⟨rfl, hb, hk⟩ := h1
    exact ⟨[], false, none, rfl, hb, hk, by simp, Lib.hid ⟨fun h => by simp at h, fun _ k => by unfold rdTexts; rw [hr]⟩⟩
  | some p =>
    obtain ⟨v, r⟩ := p
    rw [hr] at h1
    have hrest := natGo_nat hr
    unfold TextPost at h1
    simp only at h1
    by_cases hv : v ≤ r.length
    · rw [if_pos hv] at h1
      obtain ⟨rfl, hb, hk⟩ := h1
      have hvl : (r.take v).length = v := by rw [List.length_take]; omega
      refine ⟨r.take v, true, some (r.drop v), rfl, hb, hk, by rw [hrest]; simp; omega, Lib.hid ⟨fun _ => ⟨_, rfl, ?_, fun k => ?_⟩, fun h => by simp at h⟩⟩
      · rw [hvl, List.append_assoc, List.take_append_drop]; exact hrest
      · conv => lhs; unfold rdTexts
        rw [hr]
        simp only
        rw [if_pos hv]
        cases rdTexts k (r.drop v) with
        | none => rfl
        | some q => rfl
    · rw [if_neg hv] at h1
      obtain ⟨rfl, hb, hk⟩ := h1
      exact ⟨[], false, none, rfl, hb, hk, by simp, Lib.hid ⟨fun h => by simp at h, fun _ k => by unfold rdTexts; rw [hr]; simp only; rw [if_neg hv]⟩⟩
def DGetPost (r : Option (List Tx)) (w : World) (e : Ending) (w' : World) : Prop :=
  match r with
  | none => e = .returned (.tuple #[.slice none 0 0, .bool false]) ∧ Keeps No w w'
  | some l => ∃ v, e = .returned (.tuple #[v, .bool true]) ∧ w'.ownsRow w.heap.size 9 1 v l.length (l.map txV) ∧ Keeps No w w'
theorem DGetPost.no {r : Option (List Tx)} {w w' : World} (h : r = none) (hk : Keeps No w w') : DGetPost r w (.returned (.tuple #[.slice none 0 0, .bool false])) w' := by
  rw [h]; exact ⟨rfl, hk⟩
theorem DGetPost.ok {r : Option (List Tx)} {l : List Tx} {v : Value} {w w' : World} (h : r = some l) (ho : w'.ownsRow w.heap.size 9 1 v l.length (l.map txV)) (hk : Keeps No w w') : DGetPost r w (.returned (.tuple #[v, .bool true])) w' := by
  rw [h]; exact ⟨v, rfl, ho, hk⟩

set_option maxHeartbeats 4000000 in
theorem dget_any (a : Option Addr) (m c : Nat) (b : List UInt8) (n : Int) (w : World) (hs : Sl w a m c (b.map byteV)) (hm : m ≤ 100000) (hn : (Lit.int .i64 n).wf = true) :
    Calls Tryz.prog 32 #[.slice a m c, .int .i64 n] w (DGetPost (dgetL b n) w) := by
  have hw := wf_i64_iff hn
  have hlen : b.length = m := by simpa using hs.len
  have Hlen := Lib.hid hlen
  clear hlen
  go_enter Tryz.func32, Tryz.ntmps32
  by_cases h0 : n < 0
  · go_wp2_with fail
    go_ret2
    exact DGetPost.no (if_pos (.inl h0)) (Keeps.refl _ _)
  by_cases h1 : 256 < n
  · go_wp2_with fail
    go_ret2
    exact DGetPost.no (if_pos (.inr h1)) (Keeps.refl _ _)
  obtain ⟨N, rfl⟩ : ∃ N : Nat, n = (N : Int) := ⟨n.toNat, by omega⟩
  obtain ⟨R, hR⟩ : ∃ R, dgetL b (N : Int) = R := ⟨_, rfl⟩
  rw [hR]
  have HR := Lib.hid hR
  have hN : N ≤ 256 := by omega
  clear hn hw h0 hR h1
  go_wp2_with fail
  refine (open_any a m c b _ hs (by omega)).mono ?_
  rintro e w1 ⟨rb, sb, rfl, hR1, hb1, hsb1, hb1', hsb1', hk1⟩
  go_wp2_with fail
  refine (rnatural_q rb sb (some b) w1 hR1).mono ?_
  rintro e w2 ⟨C, ok, st, rfl, hR2, hk2, hQ2⟩
  have hC := hQ2.2.2
  obtain ⟨K, hK⟩ : ∃ K, K = min C 257 := ⟨_, rfl⟩
  obtain ⟨G, hG⟩ : ∃ G, G = (if ok = true then match st with | some r => rdTexts K r | none => none else none) := ⟨_, rfl⟩
  have hGR : (G = none → R = none) ∧ (∀ W rest, G = some (W, rest) → R = dgetW b N W rest) := by
    have hr : rdNat (some b) = natGo 0 0 b := rfl
    unfold NatQ at hQ2
    rw [hr] at hQ2
    cases ok with
    | false =>
      obtain ⟨h1, _⟩ := hQ2.2.1 rfl
      have hRn : R = none := by
        rw [← HR.out]; unfold dgetL; rw [if_neg (by omega), h1]
      refine ⟨fun _ => hRn, fun W rest h => ?_⟩
      rw [hG] at h; simp at h
    | true =>
      obtain ⟨r, h1, rfl⟩ := hQ2.1 rfl
      have h2 := dgetL_cut (n := (N : Int)) (by omega) (by omega) h1
      rw [HR.out, ← hK] at h2
      rw [if_pos rfl] at hG
      simp only at hG
      rw [← hG] at h2
      refine ⟨fun h => ?_, fun W rest h => ?_⟩
      · rw [h] at h2; exact h2
      · rw [h] at h2; exact h2
  have hst : ok = true → ∃ r, st = some r ∧ b = nat7 C ++ r ∧ G = (rdTexts K r).map fun p => ([] ++ p.1, p.2) := fun h => by
    obtain ⟨r, h1, h2⟩ := hQ2.1 h
    refine ⟨r, h2, natGo_nat h1, ?_⟩
    rw [hG, if_pos h, h2]
    simp only [List.nil_append]
    cases rdTexts K r <;> rfl
  have hst0 : ok = false → G = none := fun h => by rw [hG, h]; rfl
  have HGR := Lib.hid hGR
  have Hst := Lib.hid hst
  have Hst0 := Lib.hid hst0
  have hKC : K ≤ C := by omega
  have hK7 : K ≤ 257 := by omega
  have hKd : C ≤ K ∨ 257 ≤ K := by omega
  clear hG hQ2 hGR hst hst0 hR1 hK
  have hz2 := hk2.size
  go_wp2_with fail
  refine (natural_any none 0 0 [] C w2 (Sl.none _) (by omega) (by omega)).mono ?_
  rintro e w3 ⟨v3, rfl, hown3, hk3⟩
  have hC10 := nat7_len64 C (by omega)
  simp only [List.nil_append, Nat.zero_add] at hown3
  have hR3 := hR2.keep hk3 (not_No _) (not_No _)
  have hk23 : Keeps (fun k => k = rb ∨ w1.heap.size ≤ k) w1 w3 := ((Keeps.refl (fun k => k = rb ∨ w1.heap.size ≤ k) w1).trans hk2 (fun _ _ h => .inl h)).trans hk3 (fun _ _ h => absurd h (not_No _))
  have hz3 := hk3.size
  clear hR2 hk2 hk3
  go_upto_block 0 with fail
  go_cut [8, 9, 10] (fun v8 v9 v10 wx => ∃ (W : List Tx) (H : List UInt8) (ok' : Bool), v8 = .bool ok' ∧ Hid (W.length ≤ 257) ∧ Hid (∀ x ∈ W, x.length ≤ m) ∧ H.length ≤ 26000000 ∧
    Hid (ok' = true → ∃ rest, b = H ++ rest ∧ G = some (W, rest)) ∧ Hid (ok' = false → G = none) ∧
    wx.ownsRow w1.heap.size 9 1 v9 W.length (W.map txV) ∧ wx.ownsRow w1.heap.size 5 1 v10 H.length (H.map byteV) ∧ Keeps (fun k => k = rb ∨ w1.heap.size ≤ k) w1 wx)
  case first =>
    go_wp2_with fail
    go_loopg [8, 9, 10, 11] K (fun q v8 v9 v10 v11 wx => ∃ (t : Nat) (W : List Tx) (H : List UInt8) (st' : Option (List UInt8)) (ok' : Bool), v8 = .bool ok' ∧ v11 = .int .u64 (t : Int) ∧ q = K - t ∧ t ≤ K ∧ Hid (W.length = t) ∧ Hid (∀ x ∈ W, x.length ≤ m) ∧ H.length ≤ 10 + t * 100010 ∧
      (ok' = true → ∃ rest, st' = some rest ∧ rest.length ≤ m ∧ Hid (b = H ++ rest) ∧ Hid (G = (rdTexts (K - t) rest).map fun p => (W ++ p.1, p.2))) ∧ (ok' = false → G = none) ∧
      wx.ownsRow w1.heap.size 9 1 v9 t (W.map txV) ∧ wx.ownsRow w1.heap.size 5 1 v10 H.length (H.map byteV) ∧ (∀ g, v9.ownBlock = some g → v10.ownBlock ≠ some g) ∧ Rds wx rb sb st' ∧ Keeps (fun k => k = rb ∨ w1.heap.size ≤ k) w1 wx)
    case atStart =>
      refine ⟨0, [], nat7 C, st, ok, rfl, rfl, rfl, Nat.zero_le _, Lib.hid rfl, Lib.hid (by simp), by omega, fun h => ?_, Hst0.out, World.ownsRow_nil _ _ _ _, own_le hown3 (by omega), (fun g hg => by cases hg), hR3, hk23⟩
      obtain ⟨r, e1, e2, e3⟩ := Hst.out h
      refine ⟨r, e1, ?_, Lib.hid e2, Lib.hid e3⟩
      have := Hlen.out
      rw [e2, List.length_append] at this
      omega
    case round =>
      clear hown3 hR3
      obtain ⟨t, W, H, st', ok', rfl, rfl, hq, htK, HWl, HWm, hHl, hok1, hok0, hownW, hownH, hsep, hRx, hkx⟩ := hrel
      have Hq := Lib.hid hq
      have Hok0 := Lib.hid hok0
      have Hsep := Lib.hid hsep
      clear hq hok0 hsep
      have hzx := hkx.size
      have hownW' := hownW
      obtain ⟨aW, cW, rfl, hsW, hfW⟩ := Sl.ofOwn hownW'
      have hownH' := hownH
      obtain ⟨aH, cH, rfl, hsH, hfH⟩ := Sl.ofOwn hownH'
      clear hownW' hownH' hfW hfH
      by_cases hgo : t < K ∧ ok' = true
      · obtain ⟨hlt, rfl⟩ := hgo
        obtain ⟨rest, rfl, hrl, Hb, HG⟩ := hok1 rfl
        clear hok1
        have hc1 : (t : Int) < (C : Int) := by omega
        have hc2 : (t : Int) ≤ 256 := by omega
        go_wp2_with fail
        refine (rtext_q rb sb rest _ hRx).mono ?_
        rintro e w4 ⟨V, B, st4, rfl, hR4, hk4, hVl, HV⟩
        have hk14 : Keeps (fun k => k = rb ∨ w1.heap.size ≤ k) w1 w4 := hkx.trans hk4 (fun _ _ h => .inl h)
        have hownW4 := hk4.own hownW (fun i hi e => by have := (hownW.lt i hi).1; omega)
        have hownH4 := hk4.own hownH (fun i hi e => by have := (hownH.lt i hi).1; omega)
        have hz4 := hk14.size
        clear hownW hownH hRx hk4 hkx hsW hsH
        have hkA : Keeps No w4 (w4.alloc (.cells #[.string ⟨V.toArray⟩] 9)) := (Keeps.refl No _).alloc _
        go_wp2_with (at_builtin; go_loud (refine app_own rfl (.tmp 49) (.tmp 51) 64 rfl w1.heap.size 9 (.string ByteArray.empty) 16 Tryz.underlying64 str_infoQ rfl (by decide) _ t (W.map txV) rfl (hkA.own hownW4 (fun _ _ => not_No _)) _ 1 1 [.string ⟨V.toArray⟩] rfl (Sl.one _ _ _) ?h1 ?hb ?hB ?_))
        case h1 => intro u hu; simp at hu; subst hu; rfl
        case hb => omega
        case hB => simp; omega
        intro v5 w5 hown5 hg5
        have hkg : Keeps (fun i => (Value.slice aW t cW).ownBlock = some i) w4 w5 := ((Keeps.refl _ w4).alloc _).grown hg5 (fun i hi _ => hi)
        have hownH5 := hkg.own hownH4 (fun i hi h => Hsep.out i h hi)
        have hk15 : Keeps (fun k => k = rb ∨ w1.heap.size ≤ k) w1 w5 := hk14.trans hkg (fun i _ h => .inr ((hownW4.lt i h).1))
        have hR5 := hR4.keep hkg (fun h => by have := (hownW4.lt _ h).1; omega) (fun h => by have := (hownW4.lt _ h).1; omega)
        have hz5 := hkg.size
        obtain ⟨a5, c5, rfl, hs5, _⟩ := Sl.ofOwn hown5
        obtain ⟨aH5, cH5, hH5, hsH5, _⟩ := Sl.ofOwn hownH5
        obtain ⟨rfl, rfl⟩ : aH = aH5 ∧ cH = cH5 := by
          simp only [Value.slice.injEq, true_and] at hH5
          exact hH5
        have hsz : (⟨V.toArray⟩ : ByteArray).size = V.length := by simp [ByteArray.size]
        have ht10 : t * 100010 ≤ 25702570 := by have := Nat.mul_le_mul_right 100010 (show t ≤ 257 by omega); omega
        have hcall := text_any aH H.length cH H ⟨V.toArray⟩ w5 hsH5 (by rw [hsz]; omega)
        rw [hsz] at hcall
        have hV10 := nat7_len64 V.length (by omega)
        clear hH5 hownH4 hownH5 hsH5 hkA hkg hg5 hownW4 hR4 hk14 hsz
        go_wp2_with fail
        refine hcall.mono ?_
        clear hcall
        rintro e w6 ⟨v6, rfl, hown6, hk6⟩
        have hown56 := hk6.own hown5 (fun _ _ => not_No _)
        have hR6 := hR5.keep hk6 (not_No _) (not_No _)
        have hk16 : Keeps (fun k => k = rb ∨ w1.heap.size ≤ k) w1 w6 := hk15.trans hk6 (fun _ _ h => absurd h (not_No _))
        go_wp2_with fail
        go_roundg (K - (t + 1))
        case measure => have := Hq.out; omega
        case rel =>
          have hWV : W.map txV ++ [.string ⟨V.toArray⟩] = (W ++ [V]).map txV := by simp [txV]
          rw [hWV] at hown56
          refine ⟨t + 1, W ++ [V], H ++ nat7 V.length ++ V, st4, B, rfl, by go_num, rfl, by omega, Lib.hid (by simp [HWl.out]), Lib.hid (fun x hx => ?_), by simp only [List.length_append]; omega, fun h => ?_, fun h => ?_, hown56, ?_, fun g hg h => ?_, hR6, hk16⟩
          · rcases List.mem_append.1 hx with hx | hx
            · exact HWm.out x hx
            · simp at hx; subst hx; omega
          · obtain ⟨r, h1, h2, h3⟩ := HV.out.1 h
            refine ⟨r, h1, ?_, Lib.hid ?_, Lib.hid ?_⟩
            · rw [h2] at hrl; simp at hrl; omega
            · rw [Hb.out, h2]; simp
            · rw [HG.out, show K - t = (K - (t + 1)) + 1 by omega, h3 (K - (t + 1)), Option.map_map]
              congr 1
              funext p
              simp
          · rw [HG.out, show K - t = (K - (t + 1)) + 1 by omega, HV.out.2 h (K - (t + 1))]; rfl
          · have := own_le (base' := w1.heap.size) hown6 (by omega)
            simpa [Nat.add_assoc] using this
          · have h1 := (hown5.lt g hg).2
            have h2 := (hown6.lt g h).1
            omega
      · cases ok' with
        | false =>
          go_wp2_with fail
          go_meet
          refine ⟨W, H, false, rfl, Lib.hid (by have := HWl.out; omega), HWm, ?_, Lib.hid (fun h => by simp at h), Lib.hid (fun _ => by first | exact Hok0.out rfl | exact Hok0.out trivial), by rw [HWl.out]; exact hownW, hownH, hkx⟩
          have ht10 : t * 100010 ≤ 25702570 := by have := Nat.mul_le_mul_right 100010 (show t ≤ 257 by omega); omega
          omega
        | true =>
          obtain rfl : t = K := by
            have : ¬ t < K := fun h => hgo ⟨h, rfl⟩
            omega
          have hfin : ∃ (W' : List Tx) (H' : List UInt8) (ok' : Bool), (Value.bool true) = .bool ok' ∧ Hid (W'.length ≤ 257) ∧ Hid (∀ x ∈ W', x.length ≤ m) ∧ H'.length ≤ 26000000 ∧
              Hid (ok' = true → ∃ rest, b = H' ++ rest ∧ G = some (W', rest)) ∧ Hid (ok' = false → G = none) ∧
              wr.ownsRow w1.heap.size 9 1 (.slice aW t cW) W'.length (W'.map txV) ∧ wr.ownsRow w1.heap.size 5 1 (.slice aH H.length cH) H'.length (H'.map byteV) ∧ Keeps (fun k => k = rb ∨ w1.heap.size ≤ k) w1 wr := by
            obtain ⟨rest, -, hrl, Hb, HG⟩ := hok1 rfl
            have ht10 : t * 100010 ≤ 25702570 := by have := Nat.mul_le_mul_right 100010 (show t ≤ 257 by omega); omega
            refine ⟨W, H, true, rfl, Lib.hid (by have := HWl.out; omega), HWm, by omega, Lib.hid (fun _ => ⟨rest, Hb.out, ?_⟩), Lib.hid (fun h => by simp at h), by rw [HWl.out]; exact hownW, hownH, hkx⟩
            rw [HG.out, Nat.sub_self]
            simp [rdTexts]
          have Hfin := Lib.hid hfin
          clear hfin hok1
          rcases hKd with hKd | hKd
          · have hc1 : ¬ (t : Int) < (C : Int) := by omega
            go_wp2_with fail
            go_meet
            exact Hfin.out
          · obtain rfl : t = 257 := by omega
            by_cases hc1 : (257 : Int) < (C : Int)
            · go_wp2_with fail
              go_meet
              exact Hfin.out
            · go_wp2_with fail
              go_meet
              exact Hfin.out
  case rest =>
    obtain ⟨W, H, ok', rfl, HWl, HWm, hHl, Hok1, Hok0, hownW, hownH, hkx⟩ := hcut
    obtain ⟨aW, cW, rfl, hsW, -⟩ := Sl.ofOwn hownW
    obtain ⟨aH, cH, rfl, -, -⟩ := Sl.ofOwn hownH
    have hk0 : Keeps No w wc := hk1.trans hkx (fun i hi h => absurd h (by omega))
    clear hown3 hR3 hownW hownH hkx hk23 hKd
    cases ok' with
    | false =>
      go_wp2_with fail
      go_ret2
      exact DGetPost.no (HGR.out.1 (by first | exact Hok0.out rfl | exact Hok0.out trivial)) hk0
    | true =>
      obtain ⟨rest, hb, hG⟩ := Hok1.out rfl
      have hRd := HGR.out.2 _ _ hG
      have HRd := Lib.hid hRd
      have hml : m = H.length + rest.length := by rw [← Hlen.out, hb]; simp
      have hdr : b.drop H.length = rest := by rw [hb]; simp
      obtain ⟨a5, hf1, hf2, hs5, -⟩ := hs.from_ (P := Tryz.prog) Tryz.underlying22 (by kernel_rfl) (k := H.length) (by omega) .i64 (H.length : Int) rfl
      rw [← List.map_drop, hdr] at hs5
      have hmi : ¬ (m : Int) < (H.length : Int) := by omega
      have hHm : H.length ≤ m := by omega
      have Hml := Lib.hid hml
      clear hRd hb hG hdr HGR Hok0 Hok1 hml
      go_wp2_with fail
      have hcall := bget_any a5 (m - H.length) (c - H.length) rest (N : Int) _ (hs5.kept hk0) (by omega) (wf_int (by omega))
      refine hcall.mono ?_
      clear hcall
      intro e w4 hB
      have hBq : ∃ (v : Value) (aA : Option Addr) (nA cA : Nat) (A : List Int) (o2 : Bool), e = .returned (.tuple #[v, .bool o2]) ∧ v = .slice aA nA cA ∧ Sl w4 aA nA cA (A.map intV) ∧ Keeps No wc w4 ∧ Hid (A.length = nA) ∧ nA ≤ 256 ∧ Hid (o2 = true → bitsGet rest (N : Int) = some A) ∧ Hid (o2 = false → bitsGet rest (N : Int) = none ∧ A = []) := by
        cases hbg : bitsGet rest (N : Int) with
        | none =>
          rw [hbg] at hB
          obtain ⟨rfl, hk⟩ := hB
          exact ⟨_, none, 0, 0, [], false, rfl, rfl, Sl.none _, hk, Lib.hid rfl, by omega, Lib.hid (fun h => by simp at h), Lib.hid (fun _ => ⟨rfl, rfl⟩)⟩
        | some A =>
          rw [hbg] at hB
          obtain ⟨v, rfl, hown, hk⟩ := hB
          obtain ⟨aA, cA, rfl, hsA, -⟩ := Sl.ofOwn hown
          have := bitsGet_len hbg
          exact ⟨_, aA, A.length, cA, A, true, rfl, rfl, hsA, hk, Lib.hid rfl, by omega, Lib.hid (fun _ => rfl), Lib.hid (fun h => by simp at h)⟩
      clear hB
      obtain ⟨v4, aA, nA, cA, A, o2, rfl, rfl, hsA, hk4, HAl, hnA, Ho1, Ho0⟩ := hBq
      have hk04 := hk0.transNo hk4
      have hsW4 := hsW.kept hk4
      have hz04 := hk04.size
      clear hsW hk4 hk0 hf1 hf2 hs5
      go_wp2_with fail
      go_loopg [14, 76] nA (fun q v14 v76 wx => ∃ (j : Nat), v76 = .int .i64 (j : Int) ∧ q = nA - j ∧ j ≤ nA ∧ Hid (inW W (A.take j)) ∧ wx.ownsRow w4.heap.size 9 1 v14 j ((outW W (A.take j)).map txV) ∧ Keeps No w4 wx)
      case atStart => exact ⟨0, rfl, rfl, Nat.zero_le _, Lib.hid (fun i hi => by simp at hi), World.ownsRow_nil _ _ _ _, Keeps.refl _ _⟩
      case round =>
        obtain ⟨j, rfl, hq, hj, Hin, hown, hkr⟩ := hrel
        have Hq := Lib.hid hq
        clear hq
        have hown' := hown
        obtain ⟨ao, co, rfl, hso, -⟩ := Sl.ofOwn hown'
        clear hown'
        by_cases hlt : j < nA
        · have hjA : j < A.length := by rw [HAl.out]; exact hlt
          have hix := hsA.ix (P := Tryz.prog) Tryz.underlying63 (by kernel_rfl) hlt .i64
          have hcm := (hsA.kept hkr).at_ hlt
          obtain ⟨x, hx⟩ : ∃ x, x = A[j] := ⟨_, rfl⟩
          have hbv : (A.map intV).getD j undef = .int .i64 x := by rw [hx]; simp [hjA, intV]
          rw [hbv] at hcm
          have hst : A.take (j + 1) = A.take j ++ [x] := by rw [List.take_succ_eq_append_getElem hjA, ← hx]
          have hbad : ¬ (0 ≤ x ∧ x < (W.length : Int)) → R = none := fun h => by
            have ho : o2 = true := by
              cases o2
              · have := (Ho0.out rfl).2
                subst this
                simp at hjA
              · rfl
            rw [HRd.out]
            unfold dgetW
            rw [Ho1.out ho]
            simp only
            rw [if_neg]
            intro h2
            exact h (h2 x (by rw [hx]; exact List.getElem_mem hjA))
          have Hbad := Lib.hid hbad
          have Hst := Lib.hid hst
          clear hx hbv hst hbad
          by_cases hx0 : x < 0
          · go_wp2_with fail
            go_ret2
            exact DGetPost.no (Hbad.out (by omega)) (hk04.transNo hkr)
          by_cases hxW : (W.length : Int) ≤ x
          · go_wp2_with fail
            go_ret2
            exact DGetPost.no (Hbad.out (by omega)) (hk04.transNo hkr)
          obtain ⟨I, rfl⟩ : ∃ I : Nat, x = (I : Int) := ⟨x.toNat, by omega⟩
          have hIW : I < W.length := by omega
          have hixW := hsW4.ix (P := Tryz.prog) Tryz.underlying64 (by kernel_rfl) hIW .i64
          have hcmW := (hsW4.kept hkr).at_ hIW
          obtain ⟨u, hu⟩ : ∃ u, u = W[I] := ⟨_, rfl⟩
          have hbu : (W.map txV).getD I undef = .string ⟨u.toArray⟩ := by rw [hu]; simp [hIW, txV]
          rw [hbu] at hcmW
          have hou : outW W (A.take (j + 1)) = outW W (A.take j) ++ [u] := by
            rw [Hst.out, hu]; simp [outW, hIW]
          have hin : inW W (A.take (j + 1)) := by
            rw [Hst.out]
            intro i hi
            rcases List.mem_append.1 hi with hi | hi
            · exact Hin.out i hi
            · simp at hi; subst hi; omega
          have Hou := Lib.hid hou
          have Hin' := Lib.hid hin
          have hkA : Keeps No wr (wr.alloc (.cells #[.string ⟨u.toArray⟩] 9)) := (Keeps.refl No _).alloc _
          have hzr := hkr.size
          clear hu hbu hou hin
          go_wp2_with (at_builtin; go_loud (refine app_own rfl (.tmp 88) (.tmp 93) 64 rfl w4.heap.size 9 (.string ByteArray.empty) 16 Tryz.underlying64 str_infoQ rfl (by decide) _ j ((outW W (A.take j)).map txV) rfl (hkA.own hown (fun _ _ => not_No _)) _ 1 1 [.string ⟨u.toArray⟩] rfl (Sl.one _ _ _) ?h1 ?hb ?hB ?_))
          case h1 => first | rfl | (intro y hy; simp at hy; subst hy; rfl)
          case hb => omega
          case hB => first | omega | (simp; omega)
          intro v7 w7 hown7 hg7
          have hk7 : Keeps No w4 w7 := (hkr.transNo hkA).grown hg7 (fun i hi hlt2 => by have := (hown.lt i hi).1; omega)
          have e1 : (outW W (A.take j)).map txV ++ [.string ⟨u.toArray⟩] = (outW W (A.take (j + 1))).map txV := by rw [Hou.out]; simp [txV]
          rw [e1] at hown7
          clear e1 hg7 hkA hown hkr hso
          go_wp2_with fail
          go_roundg (nA - (j + 1))
          case measure => have := Hq.out; omega
          case rel => exact ⟨j + 1, by go_num, rfl, by omega, Hin', hown7, hk7⟩
        · obtain rfl : j = nA := by omega
          rw [show A.take j = A from by rw [← HAl.out, List.take_length]] at Hin hown hso
          have hk0r := hk04.transNo hkr
          cases o2 with
          | false =>
            go_wp2_with fail
            go_ret2
            refine DGetPost.no ?_ hk0r
            rw [HRd.out]
            unfold dgetW
            rw [(show bitsGet rest (N : Int) = none ∧ A = [] by first | exact Ho0.out rfl | exact Ho0.out trivial).1]
          | true =>
            have hRc : R = dchk b (outW W A) := by
              rw [HRd.out]
              unfold dgetW
              rw [show bitsGet rest (N : Int) = some A by first | exact Ho1.out rfl | exact Ho1.out trivial]
              simp only
              rw [if_pos Hin.out]
            have HRc := Lib.hid hRc
            have hoL : (outW W A).length = j := by simp [outW, HAl.out]
            have HoL := Lib.hid hoL
            have hoT : ∀ x ∈ outW W A, x.length ≤ 100000 := fun x hx => by
              obtain ⟨i, hi, rfl⟩ := List.mem_map.1 hx
              obtain ⟨h1, h2⟩ := Hin.out i hi
              have hI : i.toNat < W.length := by omega
              have := HWm.out W[i.toNat] (List.getElem_mem hI)
              simp [hI]; omega
            generalize outW W A = O at hown hso HRc HoL hoT
            have hcall := dput_any ao j co O _ hso (by omega) hoT
            clear hRc hoL hoT hsA hsW4
            go_wp2_with fail
            refine hcall.mono ?_
            clear hcall
            rintro e w7 ⟨v7, rfl, hown7, hk7, hdl⟩
            obtain ⟨a7, c7, rfl, hs7, -⟩ := Sl.ofOwn hown7
            have hk17 := hk0r.transNo hk7
            have hcall := beq_any a7 _ c7 (dputL O) a m c b _ hs7 (hs.kept hk17) (by omega) (by omega)
            clear hown7
            go_wp2_with fail
            refine hcall.mono ?_
            clear hcall
            rintro e w8 ⟨rfl, hk8⟩
            by_cases hE : dputL O = b
            · rw [decide_eq_true hE]
              have HE := Lib.hid hE
              clear hE
              go_wp2_with fail
              go_ret2
              refine DGetPost.ok (l := O) (by rw [HRc.out]; unfold dchk; rw [if_pos HE.out]) ?_ (hk17.transNo hk8)
              rw [HoL.out]
              exact own_le ((hk7.transNo hk8).own hown (fun _ _ => not_No _)) hz04
            · rw [decide_eq_false hE]
              have HE := Lib.hid hE
              clear hE
              go_wp2_with fail
              go_ret2
              exact DGetPost.no (by rw [HRc.out]; unfold dchk; rw [if_neg HE.out]) (hk17.transNo hk8)
end Go.Proofs.YthbipcjgpocpaaaGreat
