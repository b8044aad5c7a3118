/- The walk of the law DeviceOff. -/
import Derived.Test.YthimnkmoeonheaaLawFourF
namespace Go.Proofs.Ythimnkmoeonheaa
open Go.RowKit
set_option linter.unusedSimpArgs false
set_option linter.unusedVariables false

def keptB : List UInt8 := full [107, 101, 112, 116]
/-- The fourth block holds what was kept, other writes lie elsewhere, so many calls are left. -/
structure OffD (d : DS) (left j : Nat) : Prop where
  lim : d.lim = some left
  len : d.K.length = 4
  at3 : d.K.getD 3 [] = keptB
  ws : ∀ x ∈ d.W, x.1 ≠ 3
  wl : d.W.length ≤ j
theorem OffD.read (d : DS) (left j : Nat) (h : OffD d left j) : d.at_ 3 = keptB := by
  unfold DS.at_; rw [h.at3, lastW_not _ _ _ h.ws]
theorem OffD.call {d : DS} {left j : Nat} (h : OffD d (left + 1) j) : OffD d.beat.1 left (j + 1) ∧ d.beat.2 = 0 := by
  refine ⟨⟨by simp [DS.beat, h.lim, callD], h.len, h.at3, h.ws, by have := h.wl; simp [DS.beat]; omega⟩, by simp [DS.beat, h.lim, callD]⟩
theorem OffD.off {d : DS} {j : Nat} (h : OffD d 0 j) : d.beat = (d, 40) := by
  obtain ⟨K, W, lim⟩ := d
  have := h.lim
  simp only at this
  subst this
  rfl
theorem OffD.sync {d : DS} {left j : Nat} (h : OffD d (left + 1) j) : OffD d.sync.1 left (j + 1) ∧ d.sync.2 = 0 := by
  have hl : ¬ d.lim = some 0 := by rw [h.lim]; simp
  unfold DS.sync
  rw [if_neg hl]
  refine ⟨⟨by simp [h.lim, callD], by simp [keepW_len, h.len], ?_, by simp, by simp⟩, rfl⟩
  show (keepW d.K d.W).getD 3 [] = keptB
  rw [keepW_get _ _ _ (by rw [h.len]; omega), h.at3, lastW_not _ _ _ h.ws]
theorem OffD.syncOff {d : DS} {j : Nat} (h : OffD d 0 j) : d.sync = (d, 40) := by
  unfold DS.sync; rw [if_pos h.lim]
theorem OffD.write {d : DS} {left j : Nat} (h : OffD d (left + 1) j) (i : Int) (hi0 : 0 ≤ i) (hi : i < 3) (x : UInt8) : OffD (d.write i [x]).1 left (j + 1) ∧ (d.write i [x]).2 = 0 := by
  have hl : ¬ d.lim = some 0 := by rw [h.lim]; simp
  have hr : rightD d.K.length i 1 = true := by unfold rightD; rw [h.len]; simp; omega
  unfold DS.write
  rw [show ([x] : List UInt8).length = 1 from rfl, if_pos hr, if_neg hl]
  refine ⟨⟨by simp [h.lim, callD], h.len, h.at3, fun y hy => ?_, by have := h.wl; simp; omega⟩, rfl⟩
  rcases List.mem_append.1 hy with hy | hy
  · exact h.ws y hy
  · simp at hy; subst hy; simp; omega
theorem OffD.writeOff {d : DS} {j : Nat} (h : OffD d 0 j) (i : Int) (hi0 : 0 ≤ i) (hi : i < 4) (x : List UInt8) (hx : x.length ≤ 16) : d.write i x = (d, 40) := by
  have hr : rightD d.K.length i x.length = true := by unfold rightD; rw [h.len]; simp; omega
  unfold DS.write
  rw [if_pos hr, if_pos h.lim]

set_option maxRecDepth 100000 in
set_option maxHeartbeats 4000000 in
theorem deviceOff_any (c k : Int) (w : World) (hc : (Lit.int .u8 c).wf = true) (hk : (Lit.int .u64 k).wf = true) :
    Calls Try.prog 7 #[.int .u8 c, .int .u64 k] w fun e w' => e = .returned (.bool true) ∧ Keeps No w w' := by
  obtain ⟨cn, rfl, hcn⟩ := wf_u8_nat hc
  obtain ⟨kn, rfl, hkn⟩ := wf_u64_nat hk
  clear hc hk
  have kc := convB
  go_enter Try.func7, Try.ntmps7
  go_wp2_with fail
  refine (first04_any _).mono ?_
  rintro e w1 ⟨rfl, hk1⟩
  go_wp2_with fail
  refine (d_new 4 w1 (by omega) (by omega)).mono ?_
  rintro e w2 ⟨b, F, rfl, hd2, hF, hk2⟩
  have hk02 := hk1.transNo hk2
  have hlA := Sl.litK w2 #[.int .u8 107, .int .u8 101, .int .u8 112, .int .u8 116] 5 (4, 5) [107, 101, 112, 116] rfl 4 rfl (by decide)
  have hkA : Keeps No w2 (w2.alloc (.cells #[.int .u8 107, .int .u8 101, .int .u8 112, .int .u8 116] 5 (4, 5))) := (Keeps.refl No w2).alloc _
  go_wp2_with fail
  refine (d_write b F _ 3 _ _ _ [107, 101, 112, 116] _ (hd2.kept hkA) hlA (by omega) (fun _ h => by have := hd2.lt _ h; simp at this) (by simp)).mono ?_
  rintro e w3 ⟨rfl, F3, hd3, hs3⟩
  have hs13 := Step.noTrans hkA hs3
  have hz1 := hk1.size
  have hF3 : ∀ i, F3 i → w.heap.size ≤ i := fun i hi => (hs13.fresh i hi).elim (fun h => Nat.le_trans hz1 (hF i h)) (fun h => Nat.le_trans hk02.size h)
  have hk03 : Keeps No w w3 := hk02.trans hs13.keeps (fun i hi h => absurd (hF i h) (by omega))
  clear hlA hkA hs3 hs13 kc
  go_wp2_with fail
  refine (d_sync b F3 _ w3 hd3).mono ?_
  rintro e w4 ⟨rfl, hd4, hk4⟩
  rw [show ((⟨List.replicate 4 (full []), [], none⟩ : DS).write 3 [107, 101, 112, 116]).1.sync = (⟨[full [], full [], full [], keptB], [], none⟩, 0) from rfl] at hd4 ⊢
  simp only at hd4 ⊢
  have hk04 : Keeps No w w4 := hk03.trans hk4 (fun i hi h => absurd (hF3 i h) (by omega))
  obtain ⟨N, hN⟩ : ∃ N, N = cn % 40 := ⟨_, rfl⟩
  have hN40 : N < 40 := by omega
  have hmod : (cn : Int) % 40 = (N : Int) := by omega
  have hmod' : (cn : Int).tmod 40 = (N : Int) := by rw [Int.tmod_eq_emod_of_nonneg (by omega)]; exact hmod
  have HN := Lib.hid hN
  clear hN
  go_wp2_with fail
  refine (dlimit_any b F3 _ (N : Int) w4 hd4 (by omega)).mono ?_
  rintro e w5 ⟨rfl, hd5, hk5⟩
  have hk05 : Keeps No w w5 := hk04.trans hk5 (fun i hi h => absurd (hF3 i h) (by omega))
  have hO5 : OffD ((⟨[full [], full [], full [], keptB], [], none⟩ : DS).limit (N : Int)) (N - 0) 0 := ⟨by simp [DS.limit], rfl, rfl, by simp [DS.limit], by simp [DS.limit]⟩
  clear hd4 hd3 hd2 hmod hmod'
  go_wp2_with fail
  go_loopg [35] 60 (fun q i wr => ∃ (j : Nat) (d : DS) (F' : Nat → Prop), j ≤ 60 ∧ q = 60 - j ∧ i = .int .i64 (j : Int) ∧ Dv wr b F' d ∧ OffD d (N - j) j ∧ (∀ i, F' i → w.heap.size ≤ i) ∧ Keeps No w wr)
  case atStart => exact ⟨0, _, F3, by omega, rfl, rfl, hd5, hO5, hF3, hk05⟩
  case round =>
    clear hd5 hO5
    obtain ⟨j, d, F', hj, hq, rfl, hd, hO, hF', hkr⟩ := hrel
    have Hq := Lib.hid hq
    clear hq
    by_cases hlt : j < 60
    · go_upto_region 14 with (fail)
      have hlt4 : ∀ i, F' i → i < wr.heap.size := hd.lt
      generalize bits BinOp.and IntKind.u64 ((kn : Int) / 2 ^ (j % 64)) 3 = t
      by_cases t0 : t = 0
      · have e0 : (t == 0) = true := by rw [beq_iff_eq]; exact t0
        have hjb : (byteV (UInt8.ofNat j)) = .int .u8 (j : Int) := by simp [byteV]; omega
        have hlB := Sl.litK wr #[.int .u8 (j : Int)] 5 (0, 0) [UInt8.ofNat j] (by rw [List.map_cons, hjb]; rfl) 1 rfl (by decide)
        have hkB : Keeps No wr (wr.alloc (.cells #[.int .u8 (j : Int)] 5)) := (Keeps.refl No wr).alloc _
        have hwr := d_write b F' d ((j : Int) % 3) _ _ _ [UInt8.ofNat j] _ (hd.kept hkB) hlB (by omega) (fun _ h => by have := hlt4 _ h; simp at this) (by have := hO.wl; omega)
        clear t0 hjb hlB
        by_cases hjN : j < N
        · obtain ⟨l, hl⟩ : ∃ l, N - j = l + 1 := ⟨N - j - 1, by omega⟩
          rw [hl] at hO
          obtain ⟨hO', he⟩ := hO.write ((j : Int) % 3) (by omega) (by omega) (UInt8.ofNat j)
          rw [he] at hwr
          have hl' : N - (j + 1) = l := by omega
          have HL := Lib.hid hl'
          clear he hl hl'
          go_wp2_with fail
          refine hwr.mono ?_
          rintro e w6 ⟨rfl, F6, hd6, hs6⟩
          have hs06 := Step.noTrans hkB hs6
          have hk6 : Keeps No w w6 := hkr.trans hs06.keeps (fun i hi h => absurd (hF' i h) (by omega))
          have hF6 : ∀ i, F6 i → w.heap.size ≤ i := fun i hi => (hs06.fresh i hi).elim (hF' i) (fun h => by have := hkr.size; omega)
          clear hwr
          go_wp2_with fail
          go_roundg (60 - (j + 1))
          case measure => have := Hq.out; omega
          case rel => exact ⟨j + 1, _, F6, by omega, rfl, by go_num, hd6, by rw [HL.out]; exact hO', hF6, hk6⟩
        · have hl : N - j = 0 := by omega
          rw [hl] at hO
          have he := hO.writeOff ((j : Int) % 3) (by omega) (by omega) [UInt8.ofNat j] (by simp)
          rw [he] at hwr
          have hl' : N - (j + 1) = 0 := by omega
          have HL := Lib.hid hl'
          clear he hl hl'
          go_wp2_with fail
          refine hwr.mono ?_
          rintro e w6 ⟨rfl, F6, hd6, hs6⟩
          have hs06 := Step.noTrans hkB hs6
          have hk6 : Keeps No w w6 := hkr.trans hs06.keeps (fun i hi h => absurd (hF' i h) (by omega))
          have hF6 : ∀ i, F6 i → w.heap.size ≤ i := fun i hi => (hs06.fresh i hi).elim (hF' i) (fun h => by have := hkr.size; omega)
          clear hwr
          go_wp2_with fail
          go_roundg (60 - (j + 1))
          case measure => have := Hq.out; omega
          case rel => exact ⟨j + 1, d, F6, by omega, rfl, by go_num, hd6, by rw [HL.out]; exact ⟨hO.lim, hO.len, hO.at3, hO.ws, by have := hO.wl; omega⟩, hF6, hk6⟩
      have e0 : (t == 0) = false := by rw [beq_eq_false_iff_ne]; exact t0
      by_cases t1 : t = 1
      · have e1 : (t == 1) = true := by rw [beq_iff_eq]; exact t1
        have hwr := d_sync b F' d _ hd
        clear t0 t1
        by_cases hjN : j < N
        · obtain ⟨l, hl⟩ : ∃ l, N - j = l + 1 := ⟨N - j - 1, by omega⟩
          rw [hl] at hO
          obtain ⟨hO', he⟩ := hO.sync
          rw [he] at hwr
          have hl' : N - (j + 1) = l := by omega
          have HL := Lib.hid hl'
          clear he hl hl'
          go_wp2_with fail
          refine hwr.mono ?_
          rintro e w6 ⟨rfl, hd6, hs6⟩
          have hk6 : Keeps No w w6 := hkr.trans hs6 (fun i hi h => absurd (hF' i h) (by omega))
          clear hwr
          go_wp2_with fail
          go_roundg (60 - (j + 1))
          case measure => have := Hq.out; omega
          case rel => exact ⟨j + 1, _, F', by omega, rfl, by go_num, hd6, by rw [HL.out]; exact hO', hF', hk6⟩
        · have hl : N - j = 0 := by omega
          rw [hl] at hO
          have he := hO.syncOff
          rw [he] at hwr
          have hl' : N - (j + 1) = 0 := by omega
          have HL := Lib.hid hl'
          clear he hl hl'
          go_wp2_with fail
          refine hwr.mono ?_
          rintro e w6 ⟨rfl, hd6, hs6⟩
          have hk6 : Keeps No w w6 := hkr.trans hs6 (fun i hi h => absurd (hF' i h) (by omega))
          clear hwr
          go_wp2_with fail
          go_roundg (60 - (j + 1))
          case measure => have := Hq.out; omega
          case rel => exact ⟨j + 1, d, F', by omega, rfl, by go_num, hd6, by rw [HL.out]; exact ⟨hO.lim, hO.len, hO.at3, hO.ws, by have := hO.wl; omega⟩, hF', hk6⟩
      have e1 : (t == 1) = false := by rw [beq_eq_false_iff_ne]; exact t1
      have hwr := dbeat_any b F' d _ hd
      clear t0 t1
      by_cases hjN : j < N
      · obtain ⟨l, hl⟩ : ∃ l, N - j = l + 1 := ⟨N - j - 1, by omega⟩
        rw [hl] at hO
        obtain ⟨hO', he⟩ := hO.call
        rw [he] at hwr
        have hl' : N - (j + 1) = l := by omega
        have HL := Lib.hid hl'
        clear he hl hl'
        go_wp2_with fail
        refine hwr.mono ?_
        rintro e w6 ⟨rfl, hd6, hs6⟩
        have hk6 : Keeps No w w6 := hkr.trans hs6 (fun i hi h => absurd (hF' i h) (by omega))
        clear hwr
        go_wp2_with fail
        go_roundg (60 - (j + 1))
        case measure => have := Hq.out; omega
        case rel => exact ⟨j + 1, _, F', by omega, rfl, by go_num, hd6, by rw [HL.out]; exact hO', hF', hk6⟩
      · have hl : N - j = 0 := by omega
        rw [hl] at hO
        have he := hO.off
        rw [he] at hwr
        have hl' : N - (j + 1) = 0 := by omega
        have HL := Lib.hid hl'
        clear he hl hl'
        go_wp2_with fail
        refine hwr.mono ?_
        rintro e w6 ⟨rfl, hd6, hs6⟩
        have hk6 : Keeps No w w6 := hkr.trans hs6 (fun i hi h => absurd (hF' i h) (by omega))
        clear hwr
        go_wp2_with fail
        go_roundg (60 - (j + 1))
        case measure => have := Hq.out; omega
        case rel => exact ⟨j + 1, d, F', by omega, rfl, by go_num, hd6, by rw [HL.out]; exact ⟨hO.lim, hO.len, hO.at3, hO.ws, by have := hO.wl; omega⟩, hF', hk6⟩
    · have hl : N - j = 0 := by omega
      rw [hl] at hO
      have hrd : d.read 3 = ([], 40) := by unfold DS.read; rw [hO.len, if_pos (by decide), if_pos hO.lim]
      have hwo := hO.writeOff 0 (by omega) (by omega) [] (by simp)
      have h1 := dwaiting_any b F' d wr hd
      have h2 := d_read b F' d 3 wr hd
      rw [hrd] at h2
      clear hl hrd
      go_wp2_with fail
      refine h1.mono ?_
      rintro e w6 ⟨rfl, rfl⟩
      go_wp2_with fail
      refine h2.mono ?_
      rintro e w6 ⟨v6, rfl, hown6, hk6⟩
      clear h1 h2
      obtain ⟨a6, c6, rfl, _, _⟩ := Sl.ofOwn hown6
      simp only at hown6 ⊢
      have hd6 := hd.kept hk6
      have h3 := d_write b F' d 0 none 0 0 [] w6 hd6 (Sl.none _) (by omega) (fun h => by omega) (by have := hO.wl; omega)
      rw [hwo] at h3
      go_wp2_with fail
      refine h3.mono ?_
      rintro e w7 ⟨rfl, F7, hd7, hs7⟩
      have hF7 : ∀ i, F7 i → w.heap.size ≤ i := fun i hi => (hs7.fresh i hi).elim (hF' i) (fun h => by have := hkr.size; have := hk6.size; omega)
      have hk07 : Keeps No w w7 := (hkr.transNo hk6).trans hs7.keeps (fun i hi h => absurd (hF' i h) (by omega))
      clear h3 hwo
      have h4 := dwaiting_any b F7 d w7 hd7
      have h5 := dcrash_any b F7 d none 0 0 [] w7 hd7 (Sl.none _) (fun h => by omega)
      go_wp2_with fail
      refine h4.mono ?_
      rintro e w8 ⟨rfl, rfl⟩
      clear h4
      go_wp2_with fail
      refine h5.mono ?_
      rintro e w8 ⟨rfl, hd8, hk8⟩
      clear h5
      have hk08 : Keeps No w w8 := hk07.trans hk8 (fun i hi h => absurd (hF7 i h) (by omega))
      have hcr : d.crash [] = ⟨d.K, [], none⟩ := by unfold DS.crash; simp [crashW]
      rw [hcr] at hd8
      have hrd : (⟨d.K, [], none⟩ : DS).read 3 = (keptB, 0) := by
        unfold DS.read DS.at_
        rw [show (⟨d.K, [], none⟩ : DS).K.length = 4 from hO.len, if_pos (by decide), if_neg (by simp)]
        have := hO.at3
        simpa [lastW] using this
      have h6 := d_read b F7 _ 3 w8 hd8
      rw [hrd] at h6
      clear hcr hrd
      go_wp2_with fail
      refine h6.mono ?_
      rintro e w9 ⟨v9, rfl, hown9, hk9⟩
      clear h6
      obtain ⟨a9, c9, rfl, hs9, _⟩ := Sl.ofOwn hown9
      simp only at hown9 ⊢
      have hd9 := hd8.kept hk9
      have hstr : ∀ wx, Keeps F7 w9 wx → (convert 22 9 (.slice a9 keptB.length c9)).run Try.prog wx = .ok (.string ⟨(full [107, 101, 112, 116]).toArray⟩) wx := fun wx hx => strB (hs9.keep hx (fun h0 hf => by
        have h1 := hd8.lt _ hf
        have h2 := (hown9.lt _ (by rw [hs9.isSome h0]; rfl)).1
        omega))
      have hbt := dbeat_any b F7 _ w9.drew (hd9.kept (Keeps.refl No w9).drew)
      rw [show (⟨d.K, [], none⟩ : DS).beat = (⟨d.K, [], none⟩, 0) from rfl] at hbt
      go_wp2_with fail
      refine wp_region_held_drew (S := fun wx => Keeps F7 w9 wx) (by kernel_rfl) ((Keeps.refl _ _).drew) (fun hS => ?_)
      refine tk (i := 0) (oi := ⟨some 92, _, _, _, _, _⟩) (v := ?_) rfl (by kernel_rfl) (fun _ _ _ h => h) (by assumption) (by rfl) (fun w hSw => ?_) ?_; rotate_left; (focus (first | (go_simp; done) | (go_simp; with_reducible rfl))); simp only [Act.put, List.setIfInBounds_toArray, List.set_cons_zero, List.set_cons_succ]
      refine tk (i := 1) (oi := ⟨some 93, _, _, _, _, _⟩) (v := ?_) rfl (by kernel_rfl) (fun _ _ _ h => h) (by assumption) (by rfl) (fun w hSw => ?_) ?_; rotate_left; (focus (first | (go_simp; done) | (go_simp; with_reducible rfl))); simp only [Act.put, List.setIfInBounds_toArray, List.set_cons_zero, List.set_cons_succ]
      refine tk (i := 2) (oi := ⟨some 94, _, _, _, _, _⟩) (v := ?_) rfl (by kernel_rfl) (fun _ _ _ h => h) (by assumption) (by rfl) (fun w hSw => ?_) ?_; rotate_left; (focus (first | (go_simp; done) | (go_simp; with_reducible rfl))); simp only [Act.put, List.setIfInBounds_toArray, List.set_cons_zero, List.set_cons_succ]
      refine tk (i := 3) (oi := ⟨some 95, _, _, _, _, _⟩) (v := ?_) rfl (by kernel_rfl) (fun _ _ _ h => h) (by assumption) (by rfl) (fun w hSw => ?_) ?_; rotate_left; (focus (first | (go_simp; done) | (go_simp; with_reducible rfl))); simp only [Act.put, List.setIfInBounds_toArray, List.set_cons_zero, List.set_cons_succ]
      refine tk (i := 4) (oi := ⟨some 96, _, _, _, _, _⟩) (v := ?_) rfl (by kernel_rfl) (fun _ _ _ h => h) (by assumption) (by rfl) (fun w hSw => ?_) ?_; rotate_left; (focus (first | (go_simp; done) | (go_simp; with_reducible rfl))); simp only [Act.put, List.setIfInBounds_toArray, List.set_cons_zero, List.set_cons_succ]
      refine tk (i := 5) (oi := ⟨some 97, _, _, _, _, _⟩) (v := ?_) rfl (by kernel_rfl) (fun _ _ _ h => h) (by assumption) (by rfl) (fun w hSw => ?_) ?_; rotate_left; (focus (first | (go_simp; done) | (go_simp; with_reducible rfl))); simp only [Act.put, List.setIfInBounds_toArray, List.set_cons_zero, List.set_cons_succ]
      refine tk (i := 6) (oi := ⟨some 98, _, _, _, _, _⟩) (v := ?_) rfl (by kernel_rfl) (fun _ _ _ h => h) (by assumption) (by rfl) (fun w hSw => ?_) ?_; rotate_left; (focus (first | (go_simp; done) | (go_simp; with_reducible rfl))); simp only [Act.put, List.setIfInBounds_toArray, List.set_cons_zero, List.set_cons_succ]
      refine tk (i := 7) (oi := ⟨some 99, _, _, _, _, _⟩) (v := ?_) rfl (by kernel_rfl) (fun _ _ _ h => h) (by assumption) (by rfl) (fun w hSw => ?_) ?_; rotate_left; (focus (first | (go_simp; done) | (go_simp; with_reducible rfl))); simp only [Act.put, List.setIfInBounds_toArray, List.set_cons_zero, List.set_cons_succ]
      refine tk (i := 8) (oi := ⟨some 100, _, _, _, _, _⟩) (v := ?_) rfl (by kernel_rfl) (fun _ _ _ h => h) (by assumption) (by rfl) (fun w hSw => ?_) ?_; rotate_left; (focus (first | (go_simp; done) | (go_simp; with_reducible rfl))); simp only [Act.put, List.setIfInBounds_toArray, List.set_cons_zero, List.set_cons_succ]
      refine tk (i := 9) (oi := ⟨some 101, _, _, _, _, _⟩) (v := ?_) rfl (by kernel_rfl) (fun _ _ _ h => h) (by assumption) (by rfl) (fun w hSw => ?_) ?_; rotate_left; (focus (first | (go_simp; done) | (go_simp; with_reducible rfl))); simp only [Act.put, List.setIfInBounds_toArray, List.set_cons_zero, List.set_cons_succ]
      refine tk (i := 10) (oi := ⟨some 102, _, _, _, _, _⟩) (v := ?_) rfl (by kernel_rfl) (fun _ _ _ h => h) (by assumption) (by rfl) (fun w hSw => ?_) ?_; rotate_left; (focus (first | (go_simp; done) | (go_simp; with_reducible rfl))); simp only [Act.put, List.setIfInBounds_toArray, List.set_cons_zero, List.set_cons_succ]
      refine tk (i := 11) (oi := ⟨some 103, _, _, _, _, _⟩) (v := ?_) rfl (by kernel_rfl) (fun _ _ _ h => h) (by assumption) (by rfl) (fun w hSw => ?_) ?_; rotate_left; (focus (first | (go_simp; done) | (go_simp; with_reducible rfl))); simp only [Act.put, List.setIfInBounds_toArray, List.set_cons_zero, List.set_cons_succ]
      refine tk (i := 12) (oi := ⟨some 104, _, _, _, _, _⟩) (v := ?_) rfl (by kernel_rfl) (fun _ _ _ h => h) (by assumption) (by rfl) (fun w hSw => ?_) ?_; rotate_left; (focus (first | (go_simp; done) | (go_simp; with_reducible rfl))); simp only [Act.put, List.setIfInBounds_toArray, List.set_cons_zero, List.set_cons_succ]
      refine tk (i := 13) (oi := ⟨some 105, _, _, _, _, _⟩) (v := ?_) rfl (by kernel_rfl) (fun _ _ _ h => h) (by assumption) (by rfl) (fun w hSw => ?_) ?_; rotate_left; (focus (first | (go_simp; done) | (go_simp; with_reducible rfl))); simp only [Act.put, List.setIfInBounds_toArray, List.set_cons_zero, List.set_cons_succ]
      refine tk (i := 14) (oi := ⟨some 106, _, _, _, _, _⟩) (v := ?_) rfl (by kernel_rfl) (fun _ _ _ h => h) (by assumption) (by rfl) (fun w hSw => ?_) ?_; rotate_left; (focus (first | (go_simp; done) | (go_simp; with_reducible rfl))); simp only [Act.put, List.setIfInBounds_toArray, List.set_cons_zero, List.set_cons_succ]
      refine tk (i := 15) (oi := ⟨some 107, _, _, _, _, _⟩) (v := ?_) rfl (by kernel_rfl) (fun _ _ _ h => h) (by assumption) (by rfl) (fun w hSw => ?_) ?_; rotate_left; (focus (first | (go_simp; done) | (go_simp; with_reducible rfl))); simp only [Act.put, List.setIfInBounds_toArray, List.set_cons_zero, List.set_cons_succ]
      refine tk (i := 16) (oi := ⟨some 108, _, _, _, _, _⟩) (v := ?_) rfl (by kernel_rfl) (fun _ _ _ h => h) (by assumption) (by rfl) (fun w hSw => ?_) ?_; rotate_left; (focus (first | (go_simp; done) | (go_simp; with_reducible rfl))); simp only [Act.put, List.setIfInBounds_toArray, List.set_cons_zero, List.set_cons_succ]
      refine tk (i := 17) (oi := ⟨some 109, _, _, _, _, _⟩) (v := ?_) rfl (by kernel_rfl) (fun _ _ _ h => h) (by assumption) (by rfl) (fun w hSw => ?_) ?_; rotate_left; (focus (first | (go_simp; done) | (go_simp; with_reducible rfl))); simp only [Act.put, List.setIfInBounds_toArray, List.set_cons_zero, List.set_cons_succ]
      refine alone (i := 18) (oi := ⟨some 110, _, _, _, _, _⟩) rfl (by kernel_rfl) (by rfl) (fun K hK => ?_); go_simp
      refine (rfull_any [107, 101, 112, 116] _ (by simp)).mono ?_
      rintro e w5 ⟨rfl, rfl⟩
      go_simp
      refine hK.out (fun wx => Keeps F7 w9 wx) _ _ (fun _ h => h) (hS) ?_
      clear hK K hS
      intro hS
      refine tk (i := 19) (oi := ⟨some 111, _, _, _, _, _⟩) (v := ?_) rfl (by kernel_rfl) (fun _ _ _ h => h) (by assumption) (by rfl) (fun w hSw => ?_) ?_; rotate_left; (focus (first | (go_simp; done) | (go_simp; with_reducible rfl))); simp only [Act.put, List.setIfInBounds_toArray, List.set_cons_zero, List.set_cons_succ]
      refine tk (i := 20) (oi := ⟨some 112, _, _, _, _, _⟩) (v := ?_) rfl (by kernel_rfl) (fun _ _ _ h => h) (by assumption) (by rfl) (fun w hSw => ?_) ?_; rotate_left; (focus (first | (go_simp; done) | (go_simp; with_reducible rfl))); simp only [Act.put, List.setIfInBounds_toArray, List.set_cons_zero, List.set_cons_succ]
      refine tk (i := 21) (oi := ⟨some 113, _, _, _, _, _⟩) (v := ?_) rfl (by kernel_rfl) (fun _ _ _ h => h) (by assumption) (by rfl) (fun w hSw => ?_) ?_; rotate_left; (focus (first | (go_simp; done) | (go_simp; with_reducible rfl))); simp only [Act.put, List.setIfInBounds_toArray, List.set_cons_zero, List.set_cons_succ]
      refine tk (i := 22) (oi := ⟨some 114, _, _, _, _, _⟩) (v := ?_) rfl (by kernel_rfl) (fun _ _ _ h => h) (by assumption) (by rfl) (fun w hSw => ?_) ?_; rotate_left; (focus (first | (go_simp; done) | (go_simp; with_reducible rfl))); simp only [Act.put, List.setIfInBounds_toArray, List.set_cons_zero, List.set_cons_succ]
      refine alone (i := 23) (oi := ⟨some 115, _, _, _, _, _⟩) rfl (by kernel_rfl) (by rfl) (fun K hK => ?_); go_simp
      have hS0 := hS
      refine hbt.mono ?_
      rintro e w10 ⟨rfl, hd10, hk10⟩
      go_simp
      refine hK.out (fun wx => Keeps F7 w9 wx) _ _ (fun _ h => h) (hS0.trans hk10 (fun _ _ h => h)) ?_
      clear hK K hS
      intro hS
      refine tk (i := 24) (oi := ⟨some 116, _, _, _, _, _⟩) (v := ?_) rfl (by kernel_rfl) (fun _ _ _ h => h) (by assumption) (by rfl) (fun w hSw => ?_) ?_; rotate_left; (focus (first | (go_simp; done) | (go_simp; with_reducible rfl))); simp only [Act.put, List.setIfInBounds_toArray, List.set_cons_zero, List.set_cons_succ]
      refine tk (i := 25) (oi := ⟨some 117, _, _, _, _, _⟩) (v := ?_) rfl (by kernel_rfl) (fun _ _ _ h => h) (by assumption) (by rfl) (fun w hSw => ?_) ?_; rotate_left; (focus (first | (go_simp; done) | (go_simp; with_reducible rfl))); simp only [Act.put, List.setIfInBounds_toArray, List.set_cons_zero, List.set_cons_succ]
      refine tk (i := 26) (oi := ⟨some 4, _, _, _, _, _⟩) (v := ?_) rfl (by kernel_rfl) (fun _ _ _ h => h) (by assumption) (by rfl) (fun w hSw => ?_) ?_; rotate_left; (focus (first | (go_simp; done) | (go_simp; with_reducible rfl))); simp only [Act.put, List.setIfInBounds_toArray, List.set_cons_zero, List.set_cons_succ]
      refine wpAnyH_done (by kernel_rfl) ?_ _
      go_wp2_with fail
      go_ret
      exact ⟨rfl, (hk08.transNo hk9).trans hS (fun i hi h => absurd (hF7 i h) (by omega))⟩
end Go.Proofs.Ythimnkmoeonheaa
