/- The walk of the law PackReads. -/
import Derived.Test.YtkmioiakpjiokaaLawOneF
import Derived.Test.YtkmioiakpjiokaaRefPackR
namespace Go.Proofs.Ytkmioiakpjiokaa
open Go.RowKit
set_option linter.unusedSimpArgs false
set_option linter.unusedVariables false

theorem natGo_drop (R : List UInt8) : ∀ j m v r, natGo j m R = some (v, r) → ∃ k, 0 < k ∧ k ≤ R.length ∧ r = R.drop k := by
  induction R with
  | nil => intro j m v r h; simp [natGo] at h
  | cons c t ih =>
    intro j m v r h
    unfold natGo at h
    split at h
    · cases h
    split at h
    · injection h with h; injection h with h1 h2
      exact ⟨1, by omega, by simp, by rw [← h2]; rfl⟩
    · obtain ⟨k, h1, h2, h3⟩ := ih _ _ v r h
      exact ⟨k + 1, by omega, by simp; omega, h3⟩

theorem done_len (b sb : Nat) (xs : List UInt8) (w : World) (h : Rd w b sb xs false) :
    Calls Try.prog 21 #[.pointer (some ⟨b, 0, none⟩)] w fun e w' => e = .returned (.bool ((xs.length : Int) == 0)) ∧ w = w' := by
  refine (done_any b sb (some xs) w h).mono ?_
  rintro e w' ⟨rfl, rfl⟩
  refine ⟨ret_bool ?_, rfl⟩
  cases xs with
  | nil => simp
  | cons x xs =>
    have : ((((x :: xs).length : Nat) : Int) == 0) = false := by rw [beq_eq_false_iff_ne]; simp; omega
    rw [this]; simp

set_option maxRecDepth 100000 in
set_option maxHeartbeats 8000000 in
theorem packReads_any (a : Option Addr) (m c : Nat) (b : List UInt8) (a' : Option Addr) (n' c' : Nat) (asks : List UInt8) (w : World) (hs : Sl w a m c (b.map byteV)) (hm : m ≤ 140737488351232) (hs' : Sl w a' n' c' (asks.map byteV)) (hm' : n' ≤ 140737488351232) :
    Calls Try.prog 5 #[.slice a m c, .slice a' n' c'] w fun e w' => e = .returned (.bool true) ∧ Keeps No w w' := by
  have hlen : b.length = m := by simpa using hs.len
  have hlen' : asks.length = n' := by simpa using hs'.len
  have Hlen := Lib.hid hlen
  have Hlen' := Lib.hid hlen'
  clear hlen hlen'
  go_enter Try.func5, Try.ntmps5
  go_wp2_with fail
  refine (first01_any _).mono ?_
  rintro e w1 ⟨rfl, hk1⟩
  by_cases hbig : m ≤ 2000
  case neg =>
    go_wp2_with fail
    go_ret
    exact ⟨rfl, hk1⟩
  by_cases hbig' : n' ≤ 200
  case neg =>
    go_wp2_with fail
    go_ret
    exact ⟨rfl, hk1⟩
  have hs1 := hs.kept hk1
  go_wp2_with (at_builtin; refine app_ownS rfl _ _ 22 rfl w1.heap.size 5 (.int .u8 0) 1 Try.underlying22 byte_info rfl (by decide) _ 0 [] rfl (owns_lit0 w1 _ _ (Nat.le_refl _)) (fun h => by cases h) _ _ _ _ rfl (hs1.kept ((Keeps.refl _ _).alloc _)) ?h1 ?hb ?hB2 ?_)
  case h1 => exact byteV_one b
  case hb => omega
  case hB2 => simp
  intro g c2 w2 hown2 hg2 hgb hgl
  have hk2 : Keeps No w1 w2 := ((Keeps.refl No w1).alloc _).grown hg2 (fun k hk hlt => absurd hlt (by simp [Value.ownBlock] at hk; omega))
  obtain ⟨a2, c2', he2, hs2, _⟩ := Sl.ofOwn hown2
  obtain ⟨rfl, rfl⟩ : some ⟨g, 0, none⟩ = a2 ∧ c2 = c2' := by
    simp only [Value.slice.injEq] at he2
    exact ⟨he2.1, he2.2.2⟩
  go_wp2_with fail
  refine (open_any _ _ _ _ _ hs2 (by omega)).mono ?_
  rintro e w3 ⟨rb, sb, rfl, hr3, hrb1, hrb2, hrb3, hrb4, hk3⟩
  have hown := hk3.own hown2 (fun _ _ => not_No _)
  clear hown2 hg2
  have z1 := hk1.size
  have z2 := hk2.size
  have z3 := hk3.size
  have hk03 := hk1.transNo (hk2.transNo hk3)
  go_wp2_with fail
  go_loopw [44, 7] (fun i _ wr => ∃ (j : Nat) (d : List UInt8), j ≤ m ∧ d.length = m ∧ i = .int .i64 j ∧ wr.ownsRow w1.heap.size 5 1 (.slice (some ⟨g, 0, none⟩) m c2) m (d.map byteV) ∧ Keeps (fun k => k = g) w3 wr)
    (fun i _ _ => m - (intOf i).toNat)
  case atStart => exact ⟨0, b, Nat.zero_le _, Hlen.out, rfl, by simpa using hown, Keeps.refl _ _⟩
  case round =>
    obtain ⟨j, d, hj, hd, rfl, hownr, hkr⟩ := hrel
    by_cases hlt : j < m
    · have hjd : j < d.length := by omega
      have hcell := hownr.cellAt j (by omega)
      have hfr := hownr.frozenAt j
      rw [List.getElem?_map, List.getElem?_eq_getElem hjd] at hcell
      obtain ⟨x, hx⟩ : ∃ x, x = d[j] := ⟨_, rfl⟩
      simp only [Option.map_some, ← hx, byteV] at hcell
      have Hd := Lib.hid hd
      clear hx hd
      go_wp2_with fail
      go_roundw
      case rel =>
        refine ⟨j + 1, d.set j (x ^^^ 255), by omega, by rw [List.length_set]; exact Hd.out, by go_num, ?_, hkr.trans (Keeps.set _ g j _) (fun _ _ h => h)⟩
        rw [List.map_set, show byteV (x ^^^ 255) = .int .u8 (bits .xor .u8 (x.toNat : Int) 255) from by unfold byteV; rw [← xor_u8]; rfl]
        exact (hownr.stored j _).1
      case measure => simp [intOf]; omega
    · obtain rfl : m = j := by omega
      obtain ⟨w4, hw4⟩ : ∃ w4, w4 = wr := ⟨_, rfl⟩
      subst hw4
      have hr4 := hr3.keep hkr (by omega) (by omega)
      have hk04 : Keeps No w w4 := hk03.trans hkr (fun k hk h => by omega)
      clear hownr hkr hr3 hown
      have z4 := hk04.size
      go_wp2_with fail
      go_loopw [57, 8, 9, 11, 12, 13, 14, 15, 16, 17, 18, 19, 20, 21, 22, 23] (fun i rest bd _ _ _ _ _ _ _ _ _ _ _ _ _ wr => ∃ (j cr : Nat) (ar : Option Addr) (R : List UInt8) (bad : Bool), j ≤ n' ∧ R.length ≤ m ∧ i = .int .i64 j ∧ rest = .slice ar R.length cr ∧ bd = .bool bad ∧ Sl w ar R.length cr (R.map byteV) ∧
          Rds wr rb sb (if bad then none else some R) ∧ Keeps (fun k => k = rb) w4 wr)
        (fun i _ _ _ _ _ _ _ _ _ _ _ _ _ _ _ _ => n' - (intOf i).toNat)
      case atStart => exact ⟨0, c, a, b, false, by omega, by rw [Hlen.out]; exact Nat.le_refl _, rfl, by rw [Hlen.out], rfl, by rw [Hlen.out]; exact hs, hr4, Keeps.refl _ _⟩
      case round =>
        obtain ⟨j, cr, ar, R, bad, hj, hR, rfl, rfl, rfl, hsr, hrd, hkr⟩ := hrel
        have hk0r : Keeps No w _ := hk04.trans hkr (fun k hk h => by omega)
        by_cases hlt : j < n'
        case neg =>
          obtain rfl : n' = j := by omega
          go_wp2_with fail
          refine (byte_nil _).mono ?_
          rintro e w5 ⟨rfl, rfl⟩
          go_wp2_with fail
          refine (done_nil _).mono ?_
          rintro e w5 ⟨rfl, rfl⟩
          go_wp2_with fail
          go_ret
          exact ⟨ret_bool (by simp), hk0r⟩
        have hja : j < asks.length := by rw [Hlen'.out]; exact hlt
        have hix := hs'.ix (P := Try.prog) Try.underlying22 (by kernel_rfl) hlt .i64
        have hc := (hs'.kept hk0r).at_ hlt
        obtain ⟨x, hx⟩ : ∃ x, x = asks[j] := ⟨_, rfl⟩
        have hb : (asks.map byteV).getD j undef = .int .u8 (x.toNat : Int) := by rw [hx]; simp [hja, byteV]
        rw [hb] at hc
        have hx256 : (x.toNat : Int) < 256 := by have := x.toNat_lt; omega
        clear hx hb
        have hsrw := hsr.kept hk0r
        have hcr := hsr.le
        have hcm := hsr.max
        unfold maxLen at hcm
        have hP : readP R = readQ R.length (natGo 0 0 R) := rfl
        have hRN : rdNat (some R) = natGo 0 0 R := rfl

        rcases (show x.toNat % 4 = 0 ∨ x.toNat % 4 = 1 ∨ x.toNat % 4 = 2 ∨ x.toNat % 4 = 3 from by omega) with hq | hq | hq | hq
        · have q0 : ((x.toNat : Int) % 4 == 0) = true := by rw [beq_iff_eq]; omega
          clear hq
          cases hN : natGo 0 0 R with
          | none =>
            have hP0 : readP R = (0, 0) := by rw [hP, hN]; rfl
            have hRN0 : rdNat (some R) = none := by rw [hRN, hN]
            have HP := Lib.hid hP0
            have HRN := Lib.hid hRN0
            clear hN hP hRN hP0 hRN0
            cases bad
            · as_aux_lemma =>
                go_wp2_with fail
                refine (read_any _ _ _ _ _ hsrw (by omega)).mono ?_
                rw [HP.out]
                rintro e w5 ⟨rfl, rfl⟩
                go_wp2_with fail
                refine (rnatural_any rb sb (some R) _ hrd).mono ?_
                rw [HRN.out]
                rintro e w6 ⟨rfl, ⟨ys, hrb6⟩, hk6⟩
                go_wp2_with fail
                refine (done_any rb sb none _ ⟨_, hrb6⟩).mono ?_
                rintro e w7 ⟨rfl, rfl⟩
                go_wp2_with fail
                go_roundw
                case rel => exact ⟨j + 1, cr, ar, R, true, by omega, hR, by go_num, rfl, rfl, hsr, ⟨_, hrb6⟩, hkr.same hk6⟩
                case measure => simp [intOf]; omega
            · as_aux_lemma =>
                go_wp2_with fail
                refine (read_any _ _ _ _ _ hsrw (by omega)).mono ?_
                rw [HP.out]
                rintro e w5 ⟨rfl, rfl⟩
                go_wp2_with fail
                refine (rnatural_any rb sb none _ hrd).mono ?_
                rintro e w6 ⟨rfl, ⟨ys, hrb6⟩, hk6⟩
                go_wp2_with fail
                refine (done_any rb sb none _ ⟨_, hrb6⟩).mono ?_
                rintro e w7 ⟨rfl, rfl⟩
                go_wp2_with fail
                go_roundw
                case rel => exact ⟨j + 1, cr, ar, R, true, by omega, hR, by go_num, rfl, rfl, hsr, ⟨_, hrb6⟩, hkr.same hk6⟩
                case measure => simp [intOf]; omega
          | some p =>
            obtain ⟨v, r'⟩ := p
            obtain ⟨k, hk0, hkR, rfl⟩ := natGo_drop R 0 0 v r' hN
            have hP0 : readP R = (v, k) := by rw [hP, hN]; unfold readQ; simp only []; rw [List.length_drop]; congr 1; omega
            have hRN0 : rdNat (some R) = some (v, R.drop k) := by rw [hRN, hN]
            have hv64 := rdNat_lt hRN0
            have HP := Lib.hid hP0
            have HRN := Lib.hid hRN0
            have Hv := Lib.hid hv64
            clear hN hP hRN hP0 hRN0 hv64
            cases bad
            · as_aux_lemma =>
                go_wp2_with fail
                refine (read_any _ _ _ _ _ hsrw (by omega)).mono ?_
                rw [HP.out]
                rintro e w5 ⟨rfl, rfl⟩
                obtain ⟨aX, hf1, hf2, hsX, _⟩ := hsr.from_ (P := Try.prog) Try.underlying22 (by kernel_rfl) (k := k) (by omega) .i64 _ (rfl)
                rw [← List.map_drop] at hsX
                have hdl : (R.drop (k)).length = R.length - (k) := by simp
                have HsX := Lib.hid hsX
                have Hdl := Lib.hid hdl
                clear hsX hdl
                go_wp2_with fail
                refine (rnatural_any rb sb (some R) _ hrd).mono ?_
                rw [HRN.out]
                rintro e w6 ⟨rfl, hr6, hk6⟩
                go_wp2_with fail
                refine (done_len rb sb _ _ hr6).mono ?_
                rintro e w7 ⟨rfl, rfl⟩
                rw [Hdl.out]
                go_wp2_with fail
                go_roundw
                case rel => exact ⟨j + 1, cr - (k), aX, R.drop (k), false, by omega, by rw [Hdl.out]; omega, by go_num, by rw [Hdl.out], rfl, by rw [Hdl.out]; exact HsX.out, hr6, hkr.same hk6⟩
                case measure => simp [intOf]; omega
            · as_aux_lemma =>
                go_wp2_with fail
                refine (read_any _ _ _ _ _ hsrw (by omega)).mono ?_
                rw [HP.out]
                rintro e w5 ⟨rfl, rfl⟩
                go_wp2_with fail
                refine (rnatural_any rb sb none _ hrd).mono ?_
                rintro e w6 ⟨rfl, ⟨ys, hrb6⟩, hk6⟩
                go_wp2_with fail
                refine (done_any rb sb none _ ⟨_, hrb6⟩).mono ?_
                rintro e w7 ⟨rfl, rfl⟩
                go_wp2_with fail
                go_roundw
                case rel => exact ⟨j + 1, cr, ar, R, true, by omega, hR, by go_num, rfl, rfl, hsr, ⟨_, hrb6⟩, hkr.same hk6⟩
                case measure => simp [intOf]; omega
        · have q0 : ((x.toNat : Int) % 4 == 0) = false := by rw [beq_eq_false_iff_ne]; omega
          have q1 : ((x.toNat : Int) % 4 == 1) = true := by rw [beq_iff_eq]; omega
          clear hq
          cases hN : natGo 0 0 R with
          | none =>
            have hP0 : readP R = (0, 0) := by rw [hP, hN]; rfl
            have hRN0 : rdNat (some R) = none := by rw [hRN, hN]
            have HP := Lib.hid hP0
            have HRN := Lib.hid hRN0
            clear hN hP hRN hP0 hRN0
            cases bad
            · as_aux_lemma =>
                go_wp2_with fail
                refine (read_any _ _ _ _ _ hsrw (by omega)).mono ?_
                rw [HP.out]
                rintro e w5 ⟨rfl, rfl⟩
                go_wp2_with fail
                refine (rnumber_any rb sb (some R) _ hrd).mono ?_
                rw [HRN.out]
                rintro e w6 ⟨rfl, ⟨ys, hrb6⟩, hk6⟩
                go_wp2_with fail
                refine (done_any rb sb none _ ⟨_, hrb6⟩).mono ?_
                rintro e w7 ⟨rfl, rfl⟩
                go_wp2_with fail
                go_roundw
                case rel => exact ⟨j + 1, cr, ar, R, true, by omega, hR, by go_num, rfl, rfl, hsr, ⟨_, hrb6⟩, hkr.same hk6⟩
                case measure => simp [intOf]; omega
            · as_aux_lemma =>
                go_wp2_with fail
                refine (read_any _ _ _ _ _ hsrw (by omega)).mono ?_
                rw [HP.out]
                rintro e w5 ⟨rfl, rfl⟩
                go_wp2_with fail
                refine (rnumber_any rb sb none _ hrd).mono ?_
                rintro e w6 ⟨rfl, ⟨ys, hrb6⟩, hk6⟩
                go_wp2_with fail
                refine (done_any rb sb none _ ⟨_, hrb6⟩).mono ?_
                rintro e w7 ⟨rfl, rfl⟩
                go_wp2_with fail
                go_roundw
                case rel => exact ⟨j + 1, cr, ar, R, true, by omega, hR, by go_num, rfl, rfl, hsr, ⟨_, hrb6⟩, hkr.same hk6⟩
                case measure => simp [intOf]; omega
          | some p =>
            obtain ⟨v, r'⟩ := p
            obtain ⟨k, hk0, hkR, rfl⟩ := natGo_drop R 0 0 v r' hN
            have hP0 : readP R = (v, k) := by rw [hP, hN]; unfold readQ; simp only []; rw [List.length_drop]; congr 1; omega
            have hRN0 : rdNat (some R) = some (v, R.drop k) := by rw [hRN, hN]
            have hv64 := rdNat_lt hRN0
            have HP := Lib.hid hP0
            have HRN := Lib.hid hRN0
            have Hv := Lib.hid hv64
            clear hN hP hRN hP0 hRN0 hv64
            cases bad
            · as_aux_lemma =>
                go_wp2_with fail
                refine (read_any _ _ _ _ _ hsrw (by omega)).mono ?_
                rw [HP.out]
                rintro e w5 ⟨rfl, rfl⟩
                obtain ⟨aX, hf1, hf2, hsX, _⟩ := hsr.from_ (P := Try.prog) Try.underlying22 (by kernel_rfl) (k := k) (by omega) .i64 _ (rfl)
                rw [← List.map_drop] at hsX
                have hdl : (R.drop (k)).length = R.length - (k) := by simp
                have HsX := Lib.hid hsX
                have Hdl := Lib.hid hdl
                clear hsX hdl
                go_wp2_with fail
                refine (rnumber_any rb sb (some R) _ hrd).mono ?_
                rw [HRN.out]
                rintro e w6 ⟨rfl, hr6, hk6⟩
                go_wp2_with fail
                refine (unfolded_any v _ Hv.out).mono ?_
                rintro e w8 ⟨rfl, rfl⟩
                go_wp2_with fail
                refine (done_len rb sb _ _ hr6).mono ?_
                rintro e w7 ⟨rfl, rfl⟩
                rw [Hdl.out]
                go_wp2_with fail
                go_roundw
                case rel => exact ⟨j + 1, cr - (k), aX, R.drop (k), false, by omega, by rw [Hdl.out]; omega, by go_num, by rw [Hdl.out], rfl, by rw [Hdl.out]; exact HsX.out, hr6, hkr.same hk6⟩
                case measure => simp [intOf]; omega
            · as_aux_lemma =>
                go_wp2_with fail
                refine (read_any _ _ _ _ _ hsrw (by omega)).mono ?_
                rw [HP.out]
                rintro e w5 ⟨rfl, rfl⟩
                go_wp2_with fail
                refine (rnumber_any rb sb none _ hrd).mono ?_
                rintro e w6 ⟨rfl, ⟨ys, hrb6⟩, hk6⟩
                go_wp2_with fail
                refine (done_any rb sb none _ ⟨_, hrb6⟩).mono ?_
                rintro e w7 ⟨rfl, rfl⟩
                go_wp2_with fail
                go_roundw
                case rel => exact ⟨j + 1, cr, ar, R, true, by omega, hR, by go_num, rfl, rfl, hsr, ⟨_, hrb6⟩, hkr.same hk6⟩
                case measure => simp [intOf]; omega
        · have q0 : ((x.toNat : Int) % 4 == 0) = false := by rw [beq_eq_false_iff_ne]; omega
          have q1 : ((x.toNat : Int) % 4 == 1) = false := by rw [beq_eq_false_iff_ne]; omega
          have q2 : ((x.toNat : Int) % 4 == 2) = true := by rw [beq_iff_eq]; omega
          clear hq
          cases hN : natGo 0 0 R with
          | none =>
            have hP0 : readP R = (0, 0) := by rw [hP, hN]; rfl
            have hRN0 : rdNat (some R) = none := by rw [hRN, hN]
            have HP := Lib.hid hP0
            have HRN := Lib.hid hRN0
            clear hN hP hRN hP0 hRN0
            cases bad
            · as_aux_lemma =>
                go_wp2_with fail
                refine (read_any _ _ _ _ _ hsrw (by omega)).mono ?_
                rw [HP.out]
                rintro e w5 ⟨rfl, rfl⟩
                go_wp2_with fail
                refine (rtext_any rb sb (some R) _ hrd).mono ?_
                rw [HRN.out]
                rintro e w6 ⟨rfl, ⟨ys, hrb6⟩, hk6⟩
                go_wp2_with fail
                refine (done_any rb sb none _ ⟨_, hrb6⟩).mono ?_
                rintro e w7 ⟨rfl, rfl⟩
                go_wp2_with fail
                go_roundw
                case rel => exact ⟨j + 1, cr, ar, R, true, by omega, hR, by go_num, rfl, rfl, hsr, ⟨_, hrb6⟩, hkr.same hk6⟩
                case measure => simp [intOf]; omega
            · as_aux_lemma =>
                go_wp2_with fail
                refine (read_any _ _ _ _ _ hsrw (by omega)).mono ?_
                rw [HP.out]
                rintro e w5 ⟨rfl, rfl⟩
                go_wp2_with fail
                refine (rtext_any rb sb none _ hrd).mono ?_
                rintro e w6 ⟨rfl, ⟨ys, hrb6⟩, hk6⟩
                go_wp2_with fail
                refine (done_any rb sb none _ ⟨_, hrb6⟩).mono ?_
                rintro e w7 ⟨rfl, rfl⟩
                go_wp2_with fail
                go_roundw
                case rel => exact ⟨j + 1, cr, ar, R, true, by omega, hR, by go_num, rfl, rfl, hsr, ⟨_, hrb6⟩, hkr.same hk6⟩
                case measure => simp [intOf]; omega
          | some p =>
            obtain ⟨v, r'⟩ := p
            obtain ⟨k, hk0, hkR, rfl⟩ := natGo_drop R 0 0 v r' hN
            have hP0 : readP R = (v, k) := by rw [hP, hN]; unfold readQ; simp only []; rw [List.length_drop]; congr 1; omega
            have hRN0 : rdNat (some R) = some (v, R.drop k) := by rw [hRN, hN]
            have hv64 := rdNat_lt hRN0
            have HP := Lib.hid hP0
            have HRN := Lib.hid hRN0
            have Hv := Lib.hid hv64
            clear hN hP hRN hP0 hRN0 hv64
            cases bad
            · as_aux_lemma =>
                go_wp2_with fail
                refine (read_any _ _ _ _ _ hsrw (by omega)).mono ?_
                rw [HP.out]
                rintro e w5 ⟨rfl, rfl⟩
                have hlR : IntKind.u64.wrap (IntKind.i64.wrap ((R.length : Int) - (k : Int))) = ((R.length - k : Nat) : Int) := by
                  rw [IntKind.wrap_i64, IntKind.wrap_u64]; omega
                have hlR2 : IntKind.u64.wrap ((R.length : Int) - (k : Int)) = ((R.length - k : Nat) : Int) := by
                  rw [IntKind.wrap_u64]; omega
                by_cases hfit : v ≤ R.length - k
                · have hwv : IntKind.i64.wrap (v : Int) = (v : Int) := by rw [IntKind.wrap_i64]; omega
                  obtain ⟨aM, hm1, hm2, hsM⟩ := hsrw.mid (P := Try.prog) Try.underlying22 (by kernel_rfl) (lo := k) (hi := k + v) (by omega) (by omega) .i64 .i64 (k : Int) ((k : Int) + (v : Int)) rfl (by omega)
                  rw [← List.map_drop, ← List.map_take, Nat.add_sub_cancel_left] at hsM
                  have hE := strE hsM
                  rw [Nat.add_sub_cancel_left] at hm1 hm2
                  have hfitb : decide ((v : Int) ≤ (R.length : Int) - (k : Int)) = true := by rw [decide_eq_true_eq]; omega
                  have hwkv : IntKind.i64.wrap ((k : Int) + (v : Int)) = (k : Int) + (v : Int) := by rw [IntKind.wrap_i64]; omega
                  obtain ⟨aX, hf1, hf2, hsX, _⟩ := hsr.from_ (P := Try.prog) Try.underlying22 (by kernel_rfl) (k := k + v) (by omega) .i64 ((k : Int) + (v : Int)) (by omega)
                  rw [← List.map_drop] at hsX
                  have hdl : (R.drop (k + v)).length = R.length - (k + v) := by simp
                  have HsX := Lib.hid hsX
                  have Hdl := Lib.hid hdl
                  clear hsX hdl
                  go_wp2_with fail
                  refine (rtext_any rb sb (some R) _ hrd).mono ?_
                  rw [HRN.out]
                  intro e w6 hp
                  obtain ⟨rfl, hr6, hk6⟩ := hp.ok (by rw [List.length_drop]; exact hfit)
                  rw [List.drop_drop] at hr6
                  go_wp2_with fail
                  refine (done_len rb sb _ _ hr6).mono ?_
                  rintro e w7 ⟨rfl, rfl⟩
                  rw [Hdl.out]
                  go_wp2_with fail
                  go_roundw
                  case rel => exact ⟨j + 1, cr - (k + v), aX, R.drop (k + v), false, by omega, by rw [Hdl.out]; omega, by go_num, by rw [Hdl.out], rfl, by rw [Hdl.out]; exact HsX.out, hr6, hkr.same hk6⟩
                  case measure => simp [intOf]; omega
                · have hfitb : decide ((v : Int) ≤ (R.length : Int) - (k : Int)) = false := by rw [decide_eq_false_iff_not]; omega
                  go_wp2_with fail
                  refine (rtext_any rb sb (some R) _ hrd).mono ?_
                  rw [HRN.out]
                  intro e w6 hp
                  obtain ⟨rfl, ⟨ys, hrb6⟩, hk6⟩ := hp.no (by rw [List.length_drop]; exact hfit)
                  go_wp2_with fail
                  refine (done_any rb sb none _ ⟨_, hrb6⟩).mono ?_
                  rintro e w7 ⟨rfl, rfl⟩
                  go_wp2_with fail
                  go_roundw
                  case rel => exact ⟨j + 1, cr, ar, R, true, by omega, hR, by go_num, rfl, rfl, hsr, ⟨_, hrb6⟩, hkr.same hk6⟩
                  case measure => simp [intOf]; omega
            · as_aux_lemma =>
                go_wp2_with fail
                refine (read_any _ _ _ _ _ hsrw (by omega)).mono ?_
                rw [HP.out]
                rintro e w5 ⟨rfl, rfl⟩
                go_wp2_with fail
                refine (rtext_any rb sb none _ hrd).mono ?_
                rintro e w6 ⟨rfl, ⟨ys, hrb6⟩, hk6⟩
                go_wp2_with fail
                refine (done_any rb sb none _ ⟨_, hrb6⟩).mono ?_
                rintro e w7 ⟨rfl, rfl⟩
                go_wp2_with fail
                go_roundw
                case rel => exact ⟨j + 1, cr, ar, R, true, by omega, hR, by go_num, rfl, rfl, hsr, ⟨_, hrb6⟩, hkr.same hk6⟩
                case measure => simp [intOf]; omega
        · have q0 : ((x.toNat : Int) % 4 == 0) = false := by rw [beq_eq_false_iff_ne]; omega
          have q1 : ((x.toNat : Int) % 4 == 1) = false := by rw [beq_eq_false_iff_ne]; omega
          have q2 : ((x.toNat : Int) % 4 == 2) = false := by rw [beq_eq_false_iff_ne]; omega
          clear hq
          cases hN : natGo 0 0 R with
          | none =>
            have hP0 : readP R = (0, 0) := by rw [hP, hN]; rfl
            have hRN0 : rdNat (some R) = none := by rw [hRN, hN]
            have HP := Lib.hid hP0
            have HRN := Lib.hid hRN0
            clear hN hP hRN hP0 hRN0
            cases bad
            · as_aux_lemma =>
                go_wp2_with fail
                refine (read_any _ _ _ _ _ hsrw (by omega)).mono ?_
                rw [HP.out]
                rintro e w5 ⟨rfl, rfl⟩
                by_cases hR0 : R = []
                · subst hR0
                  go_wp2_with fail
                  refine (byte_none rb sb [] false _ hrd (.inr rfl)).mono ?_
                  rintro e w6 ⟨rfl, hrb6, hk6⟩
                  go_wp2_with fail
                  refine (done_any rb sb none _ ⟨_, hrb6⟩).mono ?_
                  rintro e w7 ⟨rfl, rfl⟩
                  go_wp2_with fail
                  go_roundw
                  case rel => exact ⟨j + 1, cr, ar, [], true, by omega, hR, by go_num, rfl, rfl, hsr, ⟨_, hrb6⟩, hkr.same hk6⟩
                  case measure => simp [intOf]; omega
                obtain ⟨y, t, hy⟩ := List.exists_cons_of_ne_nil hR0
                clear hR0
                have hm0 : 0 < R.length := by rw [hy]; simp
                have hix0 := hsrw.ixz (P := Try.prog) Try.underlying22 (by kernel_rfl) 0 (i := 0) rfl hm0 .i64
                have hcx6 : ∀ w6, Keeps (fun k => k = rb) _ w6 → _ := fun w6 hk6 => ((hsr.kept hk0r).keep hk6 (fun hp => by have := hsr.lt hp; intro h; omega)).at_ (i := 0) hm0
                have hcy : (R.map byteV).getD 0 undef = .int .u8 (y.toNat : Int) := by rw [hy]; rfl
                rw [Addr.add_zero'] at hix0
                rw [Addr.add_zero', hcy] at hcx6
                have ht : t = R.drop 1 := by rw [hy]; rfl
                have Hy := Lib.hid hy
                have Ht := Lib.hid ht
                clear hy ht hcy
                obtain ⟨aX, hf1, hf2, hsX, _⟩ := hsr.from_ (P := Try.prog) Try.underlying22 (by kernel_rfl) (k := 1) (by omega) .i64 (1 : Int) (rfl)
                rw [← List.map_drop] at hsX
                have hdl : (R.drop (1)).length = R.length - (1) := by simp
                have HsX := Lib.hid hsX
                have Hdl := Lib.hid hdl
                clear hsX hdl
                go_wp2_with fail
                refine (byte_some rb sb y t _ (show Rd _ rb sb (y :: t) false from Hy.out ▸ hrd)).mono ?_
                rintro e w6 ⟨rfl, hr6, hk6⟩
                rw [Ht.out] at hr6
                have hcx := hcx6 w6 hk6
                clear hcx6
                go_wp2_with fail
                refine (done_len rb sb _ _ hr6).mono ?_
                rintro e w7 ⟨rfl, rfl⟩
                rw [Hdl.out]
                go_wp2_with fail
                go_roundw
                case rel => exact ⟨j + 1, cr - (1), aX, R.drop (1), false, by omega, by rw [Hdl.out]; omega, by go_num, by rw [Hdl.out], rfl, by rw [Hdl.out]; exact HsX.out, hr6, hkr.same hk6⟩
                case measure => simp [intOf]; omega
            · as_aux_lemma =>
                go_wp2_with fail
                refine (read_any _ _ _ _ _ hsrw (by omega)).mono ?_
                rw [HP.out]
                rintro e w5 ⟨rfl, rfl⟩
                obtain ⟨ys, hy⟩ := hrd
                by_cases hz : 0 < R.length
                · go_wp2_with fail
                  refine (byte_none rb sb ys true _ hy (.inl rfl)).mono ?_
                  rintro e w6 ⟨rfl, hrb6, hk6⟩
                  go_wp2_with fail
                  refine (done_any rb sb none _ ⟨_, hrb6⟩).mono ?_
                  rintro e w7 ⟨rfl, rfl⟩
                  go_wp2_with fail
                  go_roundw
                  case rel => exact ⟨j + 1, cr, ar, R, true, by omega, hR, by go_num, rfl, rfl, hsr, ⟨_, hrb6⟩, hkr.same hk6⟩
                  case measure => simp [intOf]; omega
                · go_wp2_with fail
                  refine (byte_none rb sb ys true _ hy (.inl rfl)).mono ?_
                  rintro e w6 ⟨rfl, hrb6, hk6⟩
                  go_wp2_with fail
                  refine (done_any rb sb none _ ⟨_, hrb6⟩).mono ?_
                  rintro e w7 ⟨rfl, rfl⟩
                  go_wp2_with fail
                  go_roundw
                  case rel => exact ⟨j + 1, cr, ar, R, true, by omega, hR, by go_num, rfl, rfl, hsr, ⟨_, hrb6⟩, hkr.same hk6⟩
                  case measure => simp [intOf]; omega
          | some p =>
            obtain ⟨v, r'⟩ := p
            obtain ⟨k, hk0, hkR, rfl⟩ := natGo_drop R 0 0 v r' hN
            have hP0 : readP R = (v, k) := by rw [hP, hN]; unfold readQ; simp only []; rw [List.length_drop]; congr 1; omega
            have hRN0 : rdNat (some R) = some (v, R.drop k) := by rw [hRN, hN]
            have hv64 := rdNat_lt hRN0
            have HP := Lib.hid hP0
            have HRN := Lib.hid hRN0
            have Hv := Lib.hid hv64
            clear hN hP hRN hP0 hRN0 hv64
            cases bad
            · as_aux_lemma =>
                go_wp2_with fail
                refine (read_any _ _ _ _ _ hsrw (by omega)).mono ?_
                rw [HP.out]
                rintro e w5 ⟨rfl, rfl⟩
                by_cases hR0 : R = []
                · exact absurd hkR (by rw [hR0]; simp; omega)
                obtain ⟨y, t, hy⟩ := List.exists_cons_of_ne_nil hR0
                clear hR0
                have hm0 : 0 < R.length := by rw [hy]; simp
                have hix0 := hsrw.ixz (P := Try.prog) Try.underlying22 (by kernel_rfl) 0 (i := 0) rfl hm0 .i64
                have hcx6 : ∀ w6, Keeps (fun k => k = rb) _ w6 → _ := fun w6 hk6 => ((hsr.kept hk0r).keep hk6 (fun hp => by have := hsr.lt hp; intro h; omega)).at_ (i := 0) hm0
                have hcy : (R.map byteV).getD 0 undef = .int .u8 (y.toNat : Int) := by rw [hy]; rfl
                rw [Addr.add_zero'] at hix0
                rw [Addr.add_zero', hcy] at hcx6
                have ht : t = R.drop 1 := by rw [hy]; rfl
                have Hy := Lib.hid hy
                have Ht := Lib.hid ht
                clear hy ht hcy
                obtain ⟨aX, hf1, hf2, hsX, _⟩ := hsr.from_ (P := Try.prog) Try.underlying22 (by kernel_rfl) (k := 1) (by omega) .i64 (1 : Int) (rfl)
                rw [← List.map_drop] at hsX
                have hdl : (R.drop (1)).length = R.length - (1) := by simp
                have HsX := Lib.hid hsX
                have Hdl := Lib.hid hdl
                clear hsX hdl
                go_wp2_with fail
                refine (byte_some rb sb y t _ (show Rd _ rb sb (y :: t) false from Hy.out ▸ hrd)).mono ?_
                rintro e w6 ⟨rfl, hr6, hk6⟩
                rw [Ht.out] at hr6
                have hcx := hcx6 w6 hk6
                clear hcx6
                go_wp2_with fail
                refine (done_len rb sb _ _ hr6).mono ?_
                rintro e w7 ⟨rfl, rfl⟩
                rw [Hdl.out]
                go_wp2_with fail
                go_roundw
                case rel => exact ⟨j + 1, cr - (1), aX, R.drop (1), false, by omega, by rw [Hdl.out]; omega, by go_num, by rw [Hdl.out], rfl, by rw [Hdl.out]; exact HsX.out, hr6, hkr.same hk6⟩
                case measure => simp [intOf]; omega
            · as_aux_lemma =>
                go_wp2_with fail
                refine (read_any _ _ _ _ _ hsrw (by omega)).mono ?_
                rw [HP.out]
                rintro e w5 ⟨rfl, rfl⟩
                obtain ⟨ys, hy⟩ := hrd
                by_cases hz : 0 < R.length
                · go_wp2_with fail
                  refine (byte_none rb sb ys true _ hy (.inl rfl)).mono ?_
                  rintro e w6 ⟨rfl, hrb6, hk6⟩
                  go_wp2_with fail
                  refine (done_any rb sb none _ ⟨_, hrb6⟩).mono ?_
                  rintro e w7 ⟨rfl, rfl⟩
                  go_wp2_with fail
                  go_roundw
                  case rel => exact ⟨j + 1, cr, ar, R, true, by omega, hR, by go_num, rfl, rfl, hsr, ⟨_, hrb6⟩, hkr.same hk6⟩
                  case measure => simp [intOf]; omega
                · go_wp2_with fail
                  refine (byte_none rb sb ys true _ hy (.inl rfl)).mono ?_
                  rintro e w6 ⟨rfl, hrb6, hk6⟩
                  go_wp2_with fail
                  refine (done_any rb sb none _ ⟨_, hrb6⟩).mono ?_
                  rintro e w7 ⟨rfl, rfl⟩
                  go_wp2_with fail
                  go_roundw
                  case rel => exact ⟨j + 1, cr, ar, R, true, by omega, hR, by go_num, rfl, rfl, hsr, ⟨_, hrb6⟩, hkr.same hk6⟩
                  case measure => simp [intOf]; omega
end Go.Proofs.Ytkmioiakpjiokaa
