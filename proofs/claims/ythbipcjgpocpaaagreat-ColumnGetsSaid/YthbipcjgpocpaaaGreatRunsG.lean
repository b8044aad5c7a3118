/- The walk of runs.Get. -/
import Derived.Test.YthbipcjgpocpaaaGreatPlainRuns
import Derived.Test.YthbipcjgpocpaaaGreatMem
import Derived.Test.YthbipcjgpocpaaaGreatOrd
import Derived.Deep.LoopGhost
import Derived.Deep.DeepCutAuto
namespace Go.Proofs.YthbipcjgpocpaaaGreat
open Go.RowKit
set_option linter.unusedSimpArgs false
set_option linter.unusedVariables false

theorem int_info : (Tryz.prog.info? 3).map (fun i => (i.zero, i.size, i.bytes)) = some (some (.int .i64 0), 1, 8) := by kernel_rfl
theorem intV_one (l : List Int) : ∀ u ∈ l.map intV, u.oneCell' = true := by
  intro u hu; obtain ⟨_, _, rfl⟩ := List.mem_map.1 hu; rfl

theorem unfold_wf {u : Nat} (h : u < 18446744073709551616) : (Lit.int .i64 (unfoldN u)).wf = true := by
  have h2 : -9223372036854775808 ≤ unfoldN u ∧ unfoldN u ≤ 9223372036854775807 := by unfold unfoldN; split <;> omega
  show (decide (IntKind.i64.min ≤ unfoldN u) && decide (unfoldN u ≤ IntKind.i64.max)) = true
  have e1 : IntKind.i64.min = -9223372036854775808 := by decide
  have e2 : IntKind.i64.max = 9223372036854775807 := by decide
  rw [e1, e2]
  simpa using h2

/-- What Number and Natural yield, without a case. -/
def NumQ (st : Option (List UInt8)) (V : Int) (B : Bool) (st' : Option (List UInt8)) : Prop :=
  (B = true → ∃ u r, rdNat st = some (u, r) ∧ V = unfoldN u ∧ st' = some r ∧ u < 18446744073709551616) ∧ (B = false → rdNat st = none ∧ st' = none ∧ V = 0)
def NatQ (st : Option (List UInt8)) (V : Nat) (B : Bool) (st' : Option (List UInt8)) : Prop :=
  (B = true → ∃ r, rdNat st = some (V, r) ∧ st' = some r) ∧ (B = false → rdNat st = none ∧ st' = none ∧ V = 0) ∧ V < 18446744073709551616
theorem rnumber_q (b sb : Nat) (st : Option (List UInt8)) (w : World) (h : Rds w b sb st) :
    Calls Tryz.prog 57 #[.pointer (some ⟨b, 0, none⟩)] w fun e w' => ∃ V B st', e = .returned (.tuple #[.int .i64 V, .bool B]) ∧ Rds w' b sb st' ∧ Keeps (· = b) w w' ∧ NumQ st V B st' := by
  refine (rnumber_any b sb st w h).mono ?_
  intro e w1 h1
  cases hr : rdNat st with
  | none =>
    rw [hr] at h1
    obtain ⟨rfl, hb, hk⟩ := h1
    exact ⟨0, false, none, rfl, hb, hk, fun h => by simp at h, fun _ => ⟨hr, rfl, rfl⟩⟩
  | some x =>
    obtain ⟨u, r⟩ := x
    rw [hr] at h1
    obtain ⟨rfl, hb, hk⟩ := h1
    exact ⟨_, true, some r, rfl, hb, hk, fun _ => ⟨u, r, hr, rfl, rfl, rdNat_lt hr⟩, fun h => by simp at h⟩
theorem rnatural_q (b sb : Nat) (st : Option (List UInt8)) (w : World) (h : Rds w b sb st) :
    Calls Tryz.prog 10 #[.pointer (some ⟨b, 0, none⟩)] w fun e w' => ∃ V B st', e = .returned (.tuple #[.int .u64 ((V : Nat) : Int), .bool B]) ∧ Rds w' b sb st' ∧ Keeps (· = b) w w' ∧ NatQ st V B st' := by
  refine (rnatural_any b sb st w h).mono ?_
  intro e w1 h1
  cases hr : rdNat st with
  | none =>
    rw [hr] at h1
    obtain ⟨rfl, hb, hk⟩ := h1
    exact ⟨0, false, none, rfl, hb, hk, fun h => by simp at h, fun _ => ⟨hr, rfl, rfl⟩, by omega⟩
  | some x =>
    obtain ⟨u, r⟩ := x
    rw [hr] at h1
    obtain ⟨rfl, hb, hk⟩ := h1
    exact ⟨u, true, some r, rfl, hb, hk, fun _ => ⟨r, hr, rfl⟩, fun h => by simp at h, rdNat_lt hr⟩

theorem getStep {N C t K : Nat} {V : Int} {B1 B2 : Bool} {out : List Int} {rest : List UInt8} {st1 st2 : Option (List UInt8)} (hlt : t < C) (h3 : NumQ (some rest) V B1 st1) (h4 : NatQ st1 K B2 st2) :
    (decide (B2 = true ∧ 0 < K ∧ K ≤ N - out.length ∧ out.getLast? ≠ some V) = true → ∃ r2, st2 = some r2 ∧ getGo N (C - t) out rest = getGo N (C - (t + 1)) (out ++ List.replicate K V) r2) ∧
    (decide (B2 = true ∧ 0 < K ∧ K ≤ N - out.length ∧ out.getLast? ≠ some V) = false → getGo N (C - t) out rest = none) := by
  have hC : C - t = (C - (t + 1)) + 1 := by omega
  rw [hC]
  cases B1 with
  | false =>
    obtain ⟨h1, h2, _⟩ := h3.2 rfl
    have hn : natGo 0 0 rest = none := h1
    subst h2
    cases B2 with
    | true => obtain ⟨r, hr, _⟩ := h4.1 rfl; cases hr
    | false => exact ⟨fun h => by simp at h, fun _ => by unfold getGo; rw [hn]⟩
  | true =>
    obtain ⟨u, r, h1, rfl, rfl, _⟩ := h3.1 rfl
    have hn : natGo 0 0 rest = some (u, r) := h1
    cases B2 with
    | false =>
      obtain ⟨h2, _⟩ := h4.2.1 rfl
      have hn2 : natGo 0 0 r = none := h2
      exact ⟨fun h => by simp at h, fun _ => by unfold getGo; rw [hn]; simp only; rw [hn2]⟩
    | true =>
      obtain ⟨r2, h2, rfl⟩ := h4.1 rfl
      have hn2 : natGo 0 0 r = some (K, r2) := h2
      constructor
      · intro h
        have h := of_decide_eq_true h
        refine ⟨r2, rfl, ?_⟩
        conv => lhs; unfold getGo
        rw [hn]; simp only; rw [hn2]; simp only
        rw [if_pos h.2]
      · intro h
        have h := of_decide_eq_false h
        unfold getGo
        rw [hn]; simp only; rw [hn2]; simp only
        rw [if_neg (fun h' => h ⟨rfl, h'⟩)]

def getFin (N : Nat) : Option (List Int × List UInt8) → Option (List Int)
  | none => none
  | some (o, rest) => if rest = [] ∧ o.length = N then some o else none
theorem getRuns_fin (b : List UInt8) (N : Nat) : getRuns b N = match natGo 0 0 b with | none => none | some (c, b1) => getFin N (getGo N c [] b1) := by
  unfold getRuns
  cases natGo 0 0 b with
  | none => rfl
  | some x =>
    obtain ⟨c, b1⟩ := x
    simp only
    cases getGo N c [] b1 with
    | none => rfl
    | some y => rfl

def rgetR (b : List UInt8) (n : Int) : Option (List Int) := if n < 0 ∨ 256 < n then none else getRuns b n.toNat
def RGetPost (r : Option (List Int)) (w : World) (e : Ending) (w' : World) : Prop :=
  match r with
  | none => e = .returned (.tuple #[.slice none 0 0, .bool false]) ∧ Keeps No w w'
  | some l => ∃ v, e = .returned (.tuple #[v, .bool true]) ∧ w'.ownsRow w.heap.size 3 1 v l.length (l.map intV) ∧ Keeps No w w'
theorem RGetPost.no {b : List UInt8} {n : Int} {w w' : World} (h : rgetR b n = none) (hk : Keeps No w w') : RGetPost (rgetR b n) w (.returned (.tuple #[.slice none 0 0, .bool false])) w' := by
  rw [h]; exact ⟨rfl, hk⟩
theorem RGetPost.ok {b : List UInt8} {n : Int} {l : List Int} {v : Value} {w w' : World} (h : rgetR b n = some l) (ho : w'.ownsRow w.heap.size 3 1 v l.length (l.map intV)) (hk : Keeps No w w') : RGetPost (rgetR b n) w (.returned (.tuple #[v, .bool true])) w' := by
  rw [h]; exact ⟨v, rfl, ho, hk⟩

set_option maxRecDepth 100000 in
set_option maxHeartbeats 4000000 in
theorem rget_any (a : Option Addr) (m c : Nat) (b : List UInt8) (n : Int) (w : World) (hs : Sl w a m c (b.map byteV)) (hm : m ≤ 140737488355328) (hn : (Lit.int .i64 n).wf = true) :
    Calls Tryz.prog 30 #[.slice a m c, .int .i64 n] w (RGetPost (rgetR b n) w) := by
  have hw := wf_i64_iff hn
  go_enter Tryz.func30, Tryz.ntmps30
  by_cases h0 : n < 0
  · go_wp2_with fail
    go_ret2
    exact RGetPost.no (if_pos (.inl h0)) (Keeps.refl _ _)
  by_cases h1 : 256 < n
  · go_wp2_with fail
    go_ret2
    exact RGetPost.no (if_pos (.inr h1)) (Keeps.refl _ _)
  obtain ⟨N, rfl⟩ : ∃ N : Nat, n = (N : Int) := ⟨n.toNat, by omega⟩
  have hrg : rgetR b (N : Int) = getRuns b N := by
    unfold rgetR
    rw [if_neg (by omega)]
    rfl
  have Hrg := Lib.hid hrg
  have hN : N ≤ 256 := by omega
  clear hn hw h0 hrg
  go_wp2_with fail
  refine (open_any a m c b _ hs hm).mono ?_
  rintro e w1 ⟨rb, sb, rfl, hR1, hb1, hsb1, hb1', hsb1', hk1⟩
  go_wp2_with fail
  refine (rnatural_q rb sb (some b) w1 hR1).mono ?_
  rintro e w2 ⟨C, ok, st, rfl, hR2, hk2, hQ2⟩
  obtain ⟨G, hG⟩ : ∃ G, G = (if ok = true then match st with | some r => getGo N C [] r | none => none else none) := ⟨_, rfl⟩
  have hC := hQ2.2.2
  have HG := Lib.hid hG
  have HQ2 := Lib.hid hQ2
  clear hG hQ2
  have hz2 := hk2.size
  go_wp2_with fail
  go_loopg [7, 9, 10] C (fun q v7 v9 v10 wx => ∃ (t : Nat) (out : List Int) (v : Value) (st' : Option (List UInt8)) (ok' : Bool), v7 = v ∧ v9 = .bool ok' ∧ v10 = .int .u64 (t : Int) ∧ q = C - t ∧ t ≤ C ∧
    (ok' = true → ∃ rest, st' = some rest ∧ G = getGo N (C - t) out rest) ∧ (ok' = false → G = none) ∧ (ok' = true → (t = 0 ↔ out = [])) ∧ out.length ≤ N ∧ wx.ownsRow w1.heap.size 3 1 v out.length (out.map intV) ∧ Rds wx rb sb st' ∧ Keeps (fun k => k = rb ∨ w1.heap.size ≤ k) w2 wx)
  case atStart =>
    refine ⟨0, [], _, st, ok, rfl, rfl, rfl, rfl, Nat.zero_le _, fun h => ?_, fun h => ?_, fun _ => by simp, Nat.zero_le _, World.ownsRow_nil _ _ _ _, hR2, Keeps.refl _ _⟩
    · obtain ⟨r, _, h2⟩ := HQ2.out.1 h
      exact ⟨r, h2, by rw [HG.out, if_pos h, h2]; rfl⟩
    · rw [HG.out, h]; rfl
  case round =>
    obtain ⟨t, out, v, st', ok', rfl, rfl, rfl, hq, htC, hok1, hok0, ht0, hol, hown, hRx, hkx⟩ := hrel
    have hz3 := hkx.size
    have hR1 := hRx.keep (S := No) (Keeps.refl _ _) (not_No _) (not_No _)
    have Hq := Lib.hid hq
    clear hq
    have hown' := hown
    obtain ⟨ao, co, rfl, hso, hfo⟩ := Sl.ofOwn hown
    by_cases hgo : t < C ∧ ok' = true
    · obtain ⟨hlt, rfl⟩ := hgo
      obtain ⟨rest, rfl, hG1⟩ := hok1 rfl
      have ht0' := ht0 rfl
      have HG1 := Lib.hid hG1
      have Ht0 := Lib.hid ht0'
      clear hG1 ht0' hok1 hok0 ht0 hR1
      go_wp2_with fail
      refine (rnumber_q rb sb (some rest) _ hRx).mono ?_
      rintro e w3 ⟨V, B1, st1, rfl, hR3, hk3, hQ3⟩
      have HQ3 := Lib.hid hQ3
      clear hQ3
      go_wp2_with fail
      refine (rnatural_q rb sb st1 w3 hR3).mono ?_
      rintro e w4 ⟨K, B2, st2, rfl, hR4, hk4, hQ4⟩
      have hK := hQ4.2.2
      have HQ4 := Lib.hid hQ4
      have hk34 := hk3.same hk4
      have hz4 := hk34.size
      clear hQ4
      go_upto_region 11 with fail
      go_cut [9] (fun v9 wx => v9 = .bool (decide (B2 = true ∧ 0 < K ∧ K ≤ N - out.length ∧ out.getLast? ≠ some V)) ∧ wx = w4)
      case first =>
        cases B2
        · go_wp2_with fail
          go_meet
          exact ⟨by simp, rfl⟩
        by_cases hK0 : K = 0
        · subst hK0
          go_wp2_with fail
          go_meet
          exact ⟨by simp, rfl⟩
        have hK0' : (0 : Int) < (K : Int) := by omega
        by_cases hKn : K ≤ N - out.length
        · have hKn' : (K : Int) ≤ (N : Int) - (out.length : Int) := by omega
          rcases Nat.eq_zero_or_pos t with h0 | h0
          · have ho : out = [] := (Ht0.out).1 h0
            subst h0 ho
            have hKN : K ≤ N := by simpa using hKn
            go_wp2_with fail
            go_meet
            exact ⟨by simp; omega, rfl⟩
          · have hone : out ≠ [] := fun e => by have := (Ht0.out).2 e; omega
            have hl : 0 < out.length := List.length_pos_iff.2 hone
            have hso4 : Sl w4 ao out.length co (out.map intV) := hso.keep hk34 (fun h => by
              obtain ⟨g, hg, hgb, _⟩ := hfo _ (hso.isSome h)
              rw [hg]
              show ¬ g = rb
              omega)
            have hlm : out.length - 1 < out.length := by omega
            have hixp := hso4.ixz (P := Tryz.prog) Tryz.underlying63 (by kernel_rfl) ((out.length : Int) - 1) (i := out.length - 1) (by omega) hlm .i64
            have hcp := hso4.at_ hlm
            obtain ⟨pv, hpv⟩ : ∃ pv, pv = out[out.length - 1] := ⟨_, rfl⟩
            have hbp : (out.map intV).getD (out.length - 1) undef = .int .i64 pv := by rw [hpv]; simp [hlm, intV]
            rw [hbp] at hcp
            have hlast : out.getLast? = some pv := by rw [List.getLast?_eq_getElem?, List.getElem?_eq_getElem hlm, hpv]
            have hj0 : ((t : Int) == 0) = false := by simp; omega
            have Hl := Lib.hid hlast
            have Hone := Lib.hid hone
            clear hpv hbp hlast hone
            by_cases hxp : pv = V
            · have hne : (pv != V) = false := by simp [hxp]
              have Hxp := Lib.hid hxp
              clear hxp
              go_wp2_with fail
              go_meet
              exact ⟨by rw [decide_eq_false]; rw [Hl.out, Hxp.out]; simp, rfl⟩
            · have hne : (pv != V) = true := by simp [hxp]
              have Hxp := Lib.hid hxp
              clear hxp
              go_wp2_with fail
              go_meet
              exact ⟨by rw [Hl.out]; simp; exact ⟨by omega, hKn, Hxp.out⟩, rfl⟩
        · have hKn' : ¬ (K : Int) ≤ (N : Int) - (out.length : Int) := by omega
          go_wp2_with fail
          go_meet
          exact ⟨by rw [decide_eq_false]; exact fun h => hKn h.2.2.1, rfl⟩
      case rest =>
        obtain ⟨rfl, rfl⟩ := hcut
        obtain ⟨P2, hP2⟩ : ∃ P2, P2 = decide (B2 = true ∧ 0 < K ∧ K ≤ N - out.length ∧ out.getLast? ≠ some V) := ⟨_, rfl⟩
        rw [← hP2]
        have hsum : P2 = true → out.length + K ≤ N := fun h => by
          rw [hP2] at h
          have := of_decide_eq_true h
          omega
        have HP2 := Lib.hid hP2
        have Hsum := Lib.hid hsum
        clear hP2 hsum
        go_wp2_with fail
        go_loopg [7, 75] K (fun q v7 v75 wx => ∃ (s : Nat) (v : Value), v7 = v ∧ v75 = .int .u64 (s : Int) ∧ q = K - s ∧ s ≤ K ∧ (P2 = false → s = 0) ∧ wx.ownsRow w1.heap.size 3 1 v (out ++ List.replicate s V).length ((out ++ List.replicate s V).map intV) ∧ Keeps (fun k => w1.heap.size ≤ k) wc wx)
        case atStart =>
          refine ⟨0, _, rfl, rfl, rfl, Nat.zero_le _, fun _ => rfl, ?_, Keeps.refl _ _⟩
          have := hk34.own hown' (fun i hi e => by have := (hown'.lt i hi).1; omega)
          simpa using this
        case round =>
          obtain ⟨s, v, rfl, rfl, hq, hsK, hs0, hownI, hkI⟩ := hrel
          have Hqi := Lib.hid hq
          have Hs0 := Lib.hid hs0
          clear hq hs0
          have hzI := hkI.size
          have hlen : (out ++ List.replicate s V).length = out.length + s := by simp
          by_cases hsl : s < K
          · cases P2
            · go_wp2_with fail
              go_roundg (C - (t + 1))
              case rel =>
                have h0 := Hs0.out (by first | rfl | trivial)
                subst h0
                have hG0 : G = none := by rw [HG1.out]; exact (getStep (N := N) hlt HQ3.out HQ4.out).2 HP2.out.symm
                rw [List.replicate_zero, List.append_nil] at hownI
                refine ⟨t + 1, out, _, st2, false, rfl, rfl, by go_num, rfl, by omega, fun h => by simp at h, fun _ => hG0, fun h => by simp at h, hol, hownI, hR4.keep hkI (show ¬ w1.heap.size ≤ rb by omega) (show ¬ w1.heap.size ≤ sb by omega), (hkx.trans hk34 (fun _ _ h => .inl h)).trans hkI (fun _ _ h => .inr h)⟩
              case measure => have := Hq.out; omega
            · have hsum := Hsum.out rfl
              go_wp2_with (at_builtin; go_loud (refine app_own rfl _ _ 63 rfl w1.heap.size 3 (.int .i64 0) 8 Tryz.underlying63 int_info rfl (by decide) _ (out ++ List.replicate s V).length ((out ++ List.replicate s V).map intV) rfl (hownI.alloc _) _ 1 1 [.int .i64 V] rfl (Sl.one _ _ _) ?h1 ?hb ?hB ?_))
              case h1 => first | rfl | (intro u hu; simp at hu; subst hu; rfl)
              case hb => omega
              case hB => first | omega | (simp; omega)
              intro v' w6 hown6 hg6
              go_wp2_with fail
              go_roundg (K - (s + 1))
              case rel =>
                refine ⟨s + 1, v', rfl, by go_num, rfl, by omega, fun h => by simp at h, ?_, (hkI.alloc _).grown hg6 (fun k hk hlt => ?_)⟩
                · have e : out ++ List.replicate (s + 1) V = (out ++ List.replicate s V) ++ [V] := by rw [List.replicate_succ', List.append_assoc]
                  rw [e, List.length_append, List.map_append]
                  simpa [intV] using hown6
                · exact (hownI.lt k hk).1
              case measure => have := Hqi.out; omega
          · obtain rfl : s = K := by omega
            go_wp2_with fail
            go_roundg (C - (t + 1))
            case rel =>
              cases P2
              · have h0 := Hs0.out (by first | rfl | trivial)
                subst h0
                have hG0 : G = none := by rw [HG1.out]; exact (getStep (N := N) hlt HQ3.out HQ4.out).2 HP2.out.symm
                rw [List.replicate_zero, List.append_nil] at hownI
                exact ⟨t + 1, out, _, st2, false, rfl, rfl, by go_num, rfl, by omega, fun h => by simp at h, fun _ => hG0, fun h => by simp at h, hol, hownI, hR4.keep hkI (show ¬ w1.heap.size ≤ rb by omega) (show ¬ w1.heap.size ≤ sb by omega), (hkx.trans hk34 (fun _ _ h => .inl h)).trans hkI (fun _ _ h => .inr h)⟩
              · have hsum := Hsum.out rfl
                obtain ⟨r2, h2, h3⟩ := (getStep (N := N) hlt HQ3.out HQ4.out).1 HP2.out.symm
                have hpos : 0 < s := (of_decide_eq_true HP2.out.symm).2.1
                exact ⟨t + 1, out ++ List.replicate s V, _, st2, true, rfl, rfl, by go_num, rfl, by omega, fun _ => ⟨r2, h2, by rw [HG1.out, h3]⟩, fun h => by simp at h, fun _ => ⟨fun h => by omega, fun h => by simp at h; omega⟩, by rw [hlen]; omega, hownI, hR4.keep hkI (show ¬ w1.heap.size ≤ rb by omega) (show ¬ w1.heap.size ≤ sb by omega), (hkx.trans hk34 (fun _ _ h => .inl h)).trans hkI (fun _ _ h => .inr h)⟩
            case measure => have := Hq.out; omega
    · have hk02 : Keeps No w w2 := hk1.trans hk2 (fun i hi h => by omega)
      have hk0 : Keeps No w wr := hk02.trans hkx (fun i hi h => by omega)
      have hz1 := hk1.size
      have Hok1 := Lib.hid hok1
      have Hok0 := Lib.hid hok0
      clear ht0 hok1 hok0
      have hgR : getRuns b N = getFin N G := by
        rw [getRuns_fin, HG.out]
        cases ok with
        | false =>
          obtain ⟨h, _⟩ := HQ2.out.2.1 rfl
          have hn : natGo 0 0 b = none := h
          rw [hn]; rfl
        | true =>
          obtain ⟨r, h, rfl⟩ := HQ2.out.1 rfl
          have hn : natGo 0 0 b = some (C, r) := h
          rw [hn]; rfl
      have HgR := Lib.hid hgR
      clear hgR
      cases ok'
      · have hend : rgetR b (N : Int) = none := by rw [Hrg.out, HgR.out, Hok0.out (by first | rfl | trivial)]; rfl
        have Hend := Lib.hid hend
        clear hend
        rcases Nat.lt_or_ge t C with hlt | hge
        all_goals
          go_wp2_with fail
          go_ret2
          exact RGetPost.no Hend.out hk0
      · obtain rfl : t = C := by
          have : ¬ t < C := fun h => hgo ⟨h, rfl⟩
          omega
        obtain ⟨rest, rfl, hG1⟩ := Hok1.out (by first | rfl | trivial)
        have hG2 : G = some (out, rest) := by rw [hG1, Nat.sub_self]; rfl
        have hend : rgetR b (N : Int) = if rest = [] ∧ out.length = N then some out else none := by rw [Hrg.out, HgR.out, hG2]; rfl
        have Hend := Lib.hid hend
        clear hG1 hG2 hend
        go_wp2_with fail
        refine (done_any rb sb (some rest) _ hRx).mono ?_
        rintro e w9 ⟨rfl, rfl⟩
        by_cases hr : rest = []
        · by_cases hl : out.length = N
          · have hl' : ((out.length : Int) != (N : Int)) = false := by simp [hl]
            subst hr
            have HL := Lib.hid hl
            clear hl
            go_wp2_with fail
            go_ret2
            exact RGetPost.ok (by rw [Hend.out]; simp [HL.out]) (own_le hown' hz1) hk0
          · have hl' : ((out.length : Int) != (N : Int)) = true := by simp; omega
            subst hr
            have HL := Lib.hid hl
            clear hl
            go_wp2_with fail
            go_ret2
            exact RGetPost.no (by rw [Hend.out, if_neg (fun h => HL.out h.2)]) hk0
        · have hr' : decide (some rest = some ([] : List UInt8)) = false := by simp [hr]
          rw [hr']
          have HL := Lib.hid hr
          clear hr
          go_wp2_with fail
          go_ret2
          exact RGetPost.no (by rw [Hend.out, if_neg (fun h => HL.out h.1)]) hk0
end Go.Proofs.YthbipcjgpocpaaaGreat
