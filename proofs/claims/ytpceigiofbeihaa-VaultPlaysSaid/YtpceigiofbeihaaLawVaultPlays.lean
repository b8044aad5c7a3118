/- The walk of the law VaultPlays. -/
import Derived.Test.YtpceigiofbeihaaRefVault
import Derived.Deep.DeepCutAuto
import Derived.Deep.CutRange
import Derived.Deep.CutBlock
namespace Go.Proofs.Ytpceigiofbeihaa
open Go.RowKit
set_option linter.unusedSimpArgs false
set_option linter.unusedVariables false

abbrev BS5 := Option Addr × Nat × Nat × List UInt8
abbrev OP7 := Z64 × K3 × ByteArray × BS5 × {n : Int // (Lit.int .u64 n).wf = true}
def op7V (o : OP7) : List Value := [.int .i64 o.1.1] ++ (keyCells o.2.1 ++ ([.string o.2.2.1] ++ ([.slice o.2.2.2.1.1 o.2.2.2.1.2.1 o.2.2.2.1.2.2.1] ++ [.int .u64 o.2.2.2.2.1])))
theorem byte_info5 : (Try.prog.info? 5).map (fun i => (i.zero, i.size, i.bytes)) = some (some (.int .u8 0), 1, 1) := by kernel_rfl

theorem sealA_len (A : List AE) (G : List K3) (k : K3) (bs : ByteArray) (p : List UInt8) : (sealA A G k bs p).1.length ≤ A.length + 1 := by
  unfold sealA
  split
  · simp
  · split <;> simp
theorem underA_hit (A : List AE) (h : Nat) (h1 : 1 ≤ h) (h2 : h ≤ A.length) : underA A h = ((A[h - 1]'(by omega)).1, true) := by
  unfold underA
  rw [if_neg (by omega), List.getElem?_eq_getElem (by omega)]
theorem underA_miss (A : List AE) (h : Nat) (h1 : h = 0 ∨ A.length < h) : underA A h = (zeroKey, false) := by
  unfold underA
  by_cases h0 : h = 0
  · rw [if_pos h0]
  · rw [if_neg h0, List.getElem?_eq_none (by omega)]

theorem va_under_big (b m : Nat) (v : Value) (A : List AE) (G : List K3) (X : Nat → Prop) (w : World) (hV : VA w b m v A G X) (hA : A.length ≤ 60) :
    Calls Try.prog 31 #[.pointer (some ⟨b, 0, none⟩), .int .u64 9223372036854775808] w fun e w' => e = .returned (.tuple #[.agg #[.int .i64 0, .int .i64 0, .int .i64 0], .bool false]) ∧ Keeps No w w' := by
  obtain ⟨N, hN⟩ : ∃ N : Nat, N = 9223372036854775808 := ⟨_, rfl⟩
  have hu := va_under b m v A G X N w hV (by omega) (by omega)
  rw [underA_miss A N (.inr (by omega))] at hu
  have e : ((N : Nat) : Int) = 9223372036854775808 := by omega
  rw [e] at hu
  exact hu

theorem key_info5 : (Try.prog.info? 24).map (fun i => (i.zero, i.size, i.bytes)) = some (some (.agg #[.int .i64 0, .int .i64 0, .int .i64 0]), 3, 24) := by kernel_rfl
theorem keyOne5 (k : K3) : ∀ u ∈ [keyCells k].flatten, u.oneCell' = true := by
  intro u hu; simp [keyCells] at hu; rcases hu with rfl | rfl | rfl <;> rfl
/-- What the walk keeps: both vaults; what lies apart from them. -/
def VX (B b2 : Nat) (vl vg : Value) (E : Nat → Prop) : Nat → Prop := fun i => i < B ∨ RO b2 vl vg i ∨ E i

theorem op7_cells {w : World} {g : Nat} {o : OP7} (h : w.heap[g]? = some (.cells #[.int .i64 o.1.1, .int .i64 o.2.1.1.1, .int .i64 o.2.1.2.1.1, .int .i64 o.2.1.2.2.1, .string o.2.2.1, .slice o.2.2.2.1.1 o.2.2.2.1.2.1 o.2.2.2.1.2.2.1, .int .u64 o.2.2.2.2.1] 64 (0, 0))) :
    w.cell? ⟨g, 0, none⟩ = some (.int .i64 o.1.1) ∧ w.cell? ⟨g, 1, none⟩ = some (.int .i64 o.2.1.1.1) ∧ w.cell? ⟨g, 2, none⟩ = some (.int .i64 o.2.1.2.1.1) ∧ w.cell? ⟨g, 3, none⟩ = some (.int .i64 o.2.1.2.2.1) ∧ w.cell? ⟨g, 4, none⟩ = some (.string o.2.2.1) ∧ w.cell? ⟨g, 5, none⟩ = some (.slice o.2.2.2.1.1 o.2.2.2.1.2.1 o.2.2.2.1.2.2.1) ∧ w.cell? ⟨g, 6, none⟩ = some (.int .u64 o.2.2.2.2.1) :=
  ⟨cell_of_row w g 0 _ _ (0, 0) h, cell_of_row w g 1 _ _ (0, 0) h, cell_of_row w g 2 _ _ (0, 0) h, cell_of_row w g 3 _ _ (0, 0) h, cell_of_row w g 4 _ _ (0, 0) h, cell_of_row w g 5 _ _ (0, 0) h, cell_of_row w g 6 _ _ (0, 0) h⟩
/-- What an act leaves: both vaults, alike; the bytes that it was handed, a row of their own. -/
def PlayR (w : World) (B b m b2 j g7 n7 c7 : Nat) (wx : World) : Prop :=
  ∃ (v vl vg : Value) (A : List AE) (G : List K3) (q : List UInt8), A.length ≤ j + 1 ∧ G.length ≤ j + 1 ∧ VA wx b m v A G (VX B b2 vl vg (fun i => i = g7)) ∧ RV wx b2 vl vg A G ∧ (∀ i, RO b2 vl vg i → B ≤ i) ∧ ¬ RO b2 vl vg g7 ∧
    wx.ownsRow 0 5 1 (.slice (some ⟨g7, 0, none⟩) n7 c7) n7 (q.map byteV) ∧ Keeps No w wx

set_option maxRecDepth 100000 in
set_option maxHeartbeats 16000000 in
theorem vaultPlays_any (a : Option Addr) (n c : Nat) (L : List OP7) (w : World) (hs : SlK w 7 a n c (L.map op7V)) (hL : ∀ o ∈ L, o.2.2.1.size ≤ 140737488351232 ∧ Sl w o.2.2.2.1.1 o.2.2.2.1.2.1 o.2.2.2.1.2.2.1 (o.2.2.2.1.2.2.2.map byteV) ∧ o.2.2.2.1.2.1 ≤ 140737488351232) :
    Calls Try.prog 7 #[.slice a n c] w fun e w' => e = .returned (.bool true) ∧ Keeps No w w' := by
  have hlen : L.length = n := by simpa using hs.len
  have Hlen := Lib.hid hlen
  clear hlen
  have hm := hs.max
  have hle := hs.le
  unfold maxLen at hm
  have HL := Lib.hid hL
  clear hL
  go_enter Try.func7, Try.ntmps7
  go_wp2_with fail
  refine (first05_any _).mono ?_
  rintro e w1 ⟨rfl, hk1⟩
  go_wp2_with fail
  refine (va_new w1).mono ?_
  rintro e w2 ⟨b, m, rfl, hV2, hk2⟩
  have hk02 := hk1.transNo hk2
  have hb2 := heap_alloc_new w2 (.cells #[.slice none 0 0, .slice none 0 0] 62)
  have hkA2 : Keeps No w2 (w2.alloc (.cells #[.slice none 0 0, .slice none 0 0] 62)) := (Keeps.refl No w2).alloc _
  have hR2 : RV (w2.alloc (.cells #[.slice none 0 0, .slice none 0 0] 62)) w2.heap.size (.slice none 0 0) (.slice none 0 0) [] [] :=
    ⟨hb2, World.ownsRow_nil _ _ _ _, World.ownsRow_nil _ _ _ _, by simp [Value.ownBlock], by simp [Value.ownBlock], fun i h => by simp [Value.ownBlock] at h⟩
  have hV3 := (hV2.fresh hkA2).more (Y := VX w1.heap.size w2.heap.size (.slice none 0 0) (.slice none 0 0) (fun _ => False)) (fun i _ h => by
    rcases h with h | (h | h | h) | h
    · exact .inl h
    · exact .inr (by omega)
    · simp [Value.ownBlock] at h
    · simp [Value.ownBlock] at h
    · exact h.elim)
  have hz1 := hk1.size
  have hz2 := hk2.size
  have hk03 := hk02.transNo hkA2
  obtain ⟨b2, hb2e⟩ : ∃ b2, b2 = w2.heap.size := ⟨_, rfl⟩
  have hb2w : w1.heap.size ≤ b2 := by omega
  clear hb2 hV2
  go_wp2_with fail
  rw [← hb2e] at hV3 hR2 ⊢
  have HB2 := Lib.hid hb2e
  clear hb2e
  go_loopg [31] n (fun q i wr => ∃ (j : Nat) (v vl vg : Value) (A : List AE) (G : List K3), j ≤ n ∧ j ≤ 60 ∧ q = n - j ∧ i = .int .i64 j ∧ A.length ≤ j ∧ G.length ≤ j ∧
      VA wr b m v A G (VX w1.heap.size b2 vl vg (fun _ => False)) ∧ RV wr b2 vl vg A G ∧ (∀ i, RO b2 vl vg i → w1.heap.size ≤ i) ∧ Keeps No w wr)
  case atStart => exact ⟨0, _, _, _, [], [], Nat.zero_le _, by omega, rfl, rfl, Nat.le_refl _, Nat.le_refl _, hV3, hR2, (fun i hi => by rcases hi with h | h | h; (omega); (simp [Value.ownBlock] at h); (simp [Value.ownBlock] at h)), hk03⟩
  case round =>
    clear hV3 hR2 hkA2
    obtain ⟨j, v, vl, vg, A, G, hj, hj60, hq, rfl, hAj, hGj, hV, hR, hRO, hkr⟩ := hrel
    have Hq := Lib.hid hq
    have HRO := Lib.hid hRO
    clear hq hRO
    by_cases hlt : j < n
    · have hjL : j < L.length := by rw [Hlen.out]; exact hlt
      have hsr := hs.kept hkr
      have hix := hsr.ix (P := Try.prog) Try.underlying58 (by kernel_rfl) hlt .i64
      obtain ⟨hld, _⟩ := hsr.load (P := Try.prog) (ty := 64) Try.underlying64 rfl (by kernel_rfl) hlt
      obtain ⟨o, ho⟩ : ∃ o, o = L[j] := ⟨_, rfl⟩
      have hxc : (L.map op7V).getD j [] = op7V o := by rw [ho]; simp [hjL]
      rw [hxc, show (op7V o).toArray = #[.int .i64 o.1.1, .int .i64 o.2.1.1.1, .int .i64 o.2.1.2.1.1, .int .i64 o.2.1.2.2.1, .string o.2.2.1, .slice o.2.2.2.1.1 o.2.2.2.1.2.1 o.2.2.2.1.2.2.1, .int .u64 o.2.2.2.2.1] from rfl] at hld
      obtain ⟨hbs, hpl, hpn⟩ := HL.out o (by rw [ho]; exact List.getElem_mem hjL)
      clear ho hxc hsr
      have hop := heap_alloc_new wr (.cells #[.int .i64 o.1.1, .int .i64 o.2.1.1.1, .int .i64 o.2.1.2.1.1, .int .i64 o.2.1.2.2.1, .string o.2.2.1, .slice o.2.2.2.1.1 o.2.2.2.1.2.1 o.2.2.2.1.2.2.1, .int .u64 o.2.2.2.2.1] 64)
      have hkO : Keeps No wr (wr.alloc (.cells #[.int .i64 o.1.1, .int .i64 o.2.1.1.1, .int .i64 o.2.1.2.1.1, .int .i64 o.2.1.2.2.1, .string o.2.2.1, .slice o.2.2.2.1.1 o.2.2.2.1.2.1 o.2.2.2.1.2.2.1, .int .u64 o.2.2.2.2.1] 64)) := (Keeps.refl No wr).alloc _
      go_upto_region 7 with (refine wpList_loadV rfl 64 _ rfl _ rfl _ hld ?_)
      clear hld hix
      by_cases h60 : 60 ≤ j
      · have hVx := hV.kept ((Keeps.refl No wr).alloc (.cells #[.int .i64 o.1.1, .int .i64 o.2.1.1.1, .int .i64 o.2.1.2.1.1, .int .i64 o.2.1.2.2.1, .string o.2.2.1, .slice o.2.2.2.1.1 o.2.2.2.1.2.1 o.2.2.2.1.2.2.1, .int .u64 o.2.2.2.2.1] 64))
        have hkx := hkr.alloc (.cells #[.int .i64 o.1.1, .int .i64 o.2.1.1.1, .int .i64 o.2.1.2.1.1, .int .i64 o.2.1.2.2.1, .string o.2.2.1, .slice o.2.2.2.1.1 o.2.2.2.1.2.1 o.2.2.2.1.2.2.1, .int .u64 o.2.2.2.2.1] 64)
        have hd60 : decide ((60 : Int) ≤ j) = true := by simp; omega
        go_wp2_with fail
        refine (va_under_big b m v A G _ _ hVx (by omega)).mono ?_
        rintro e wz ⟨rfl, hkz⟩
        go_wp2_with fail
        go_ret
        exact ⟨rfl, (hkx.transNo hkz).alloc _⟩
      have hd60 : decide ((60 : Int) ≤ j) = false := by simp; omega
      by_cases h300 : 300 < o.2.2.1.size
      · have hVx := hV.kept ((Keeps.refl No wr).alloc (.cells #[.int .i64 o.1.1, .int .i64 o.2.1.1.1, .int .i64 o.2.1.2.1.1, .int .i64 o.2.1.2.2.1, .string o.2.2.1, .slice o.2.2.2.1.1 o.2.2.2.1.2.1 o.2.2.2.1.2.2.1, .int .u64 o.2.2.2.2.1] 64))
        have hkx := hkr.alloc (.cells #[.int .i64 o.1.1, .int .i64 o.2.1.1.1, .int .i64 o.2.1.2.1.1, .int .i64 o.2.1.2.2.1, .string o.2.2.1, .slice o.2.2.2.1.1 o.2.2.2.1.2.1 o.2.2.2.1.2.2.1, .int .u64 o.2.2.2.2.1] 64)
        have hd300 : decide ((300 : Int) < (o.2.2.1.size : Int)) = true := by simp; omega
        go_wp2_with fail
        refine (va_under_big b m v A G _ _ hVx (by omega)).mono ?_
        rintro e wz ⟨rfl, hkz⟩
        go_wp2_with fail
        go_ret
        exact ⟨rfl, (hkx.transNo hkz).alloc _⟩
      have hd300 : decide ((300 : Int) < (o.2.2.1.size : Int)) = false := by simp; omega
      by_cases hp300 : 300 < o.2.2.2.1.2.1 ∧ o.2.2.2.1.2.1 ≤ 65536
      · have hVx := hV.kept ((Keeps.refl No wr).alloc (.cells #[.int .i64 o.1.1, .int .i64 o.2.1.1.1, .int .i64 o.2.1.2.1.1, .int .i64 o.2.1.2.2.1, .string o.2.2.1, .slice o.2.2.2.1.1 o.2.2.2.1.2.1 o.2.2.2.1.2.2.1, .int .u64 o.2.2.2.2.1] 64))
        have hkx := hkr.alloc (.cells #[.int .i64 o.1.1, .int .i64 o.2.1.1.1, .int .i64 o.2.1.2.1.1, .int .i64 o.2.1.2.2.1, .string o.2.2.1, .slice o.2.2.2.1.1 o.2.2.2.1.2.1 o.2.2.2.1.2.2.1, .int .u64 o.2.2.2.2.1] 64)
        have hd1 : decide ((300 : Int) < (o.2.2.2.1.2.1 : Int)) = true := by simp; omega
        have hd2 : decide ((o.2.2.2.1.2.1 : Int) ≤ 65536) = true := by simp; omega
        go_wp2_with fail
        refine (va_under_big b m v A G _ _ hVx (by omega)).mono ?_
        rintro e wz ⟨rfl, hkz⟩
        go_wp2_with fail
        go_ret
        exact ⟨rfl, (hkx.transNo hkz).alloc _⟩
      have hdd : (decide ((300 : Int) < (o.2.2.2.1.2.1 : Int)) = false) ∨ (decide ((300 : Int) < (o.2.2.2.1.2.1 : Int)) = true ∧ decide ((o.2.2.2.1.2.1 : Int) ≤ 65536) = false) := by
        by_cases h : 300 < o.2.2.2.1.2.1
        · exact .inr ⟨by simp; omega, by simp; omega⟩
        · exact .inl (by simp; omega)
      have hj59 : j < 60 := by omega
      clear hp300 h60 h300
      have hVlt := hV.lt
      have hVnot := hV.not
      have hRlt := hR.lt
      have hR0lt : ∀ i, RO b2 vl vg i → w1.heap.size ≤ i := HRO.out
      obtain ⟨k, hk⟩ : ∃ k, k = o.2.1 := ⟨_, rfl⟩
      have hkW0 := hkr.transNo hkO
      have hpl0 := hpl.kept hkW0
      have hpx := hpl.max
      have hple := hpl.le
      unfold maxLen at hpx
      have hownE : ((wr.alloc (.cells #[.int .i64 o.1.1, .int .i64 o.2.1.1.1, .int .i64 o.2.1.2.1.1, .int .i64 o.2.1.2.2.1, .string o.2.2.1, .slice o.2.2.2.1.1 o.2.2.2.1.2.1 o.2.2.2.1.2.2.1, .int .u64 o.2.2.2.2.1] 64)).alloc (.cells #[] 5)).ownsRow (wr.heap.size + 1) 5 1 (.slice (some ⟨wr.heap.size + 1, 0, none⟩) 0 0) 0 [] := by
        have := owns_lit0 (wr.alloc (.cells #[.int .i64 o.1.1, .int .i64 o.2.1.1.1, .int .i64 o.2.1.2.1.1, .int .i64 o.2.1.2.2.1, .string o.2.2.1, .slice o.2.2.2.1.1 o.2.2.2.1.2.1 o.2.2.2.1.2.2.1, .int .u64 o.2.2.2.2.1] 64)) (wr.heap.size + 1) 5 (by simp)
        rw [show (wr.alloc (.cells #[.int .i64 o.1.1, .int .i64 o.2.1.1.1, .int .i64 o.2.1.2.1.1, .int .i64 o.2.1.2.2.1, .string o.2.2.1, .slice o.2.2.2.1.1 o.2.2.2.1.2.1 o.2.2.2.1.2.2.1, .int .u64 o.2.2.2.2.1] 64)).heap.size = wr.heap.size + 1 from by simp] at this
        exact this
      have hplE := hpl0.kept ((Keeps.refl No _).alloc (.cells #[] 5))
      go_cut [55] (fun s wx => s = .bool false ∧ wx = wr.alloc (.cells #[.int .i64 o.1.1, .int .i64 o.2.1.1.1, .int .i64 o.2.1.2.1.1, .int .i64 o.2.1.2.2.1, .string o.2.2.1, .slice o.2.2.2.1.1 o.2.2.2.1.2.1 o.2.2.2.1.2.2.1, .int .u64 o.2.2.2.2.1] 64))
      case first =>
        rcases hdd with hdd | ⟨hdd, hdd2⟩
        all_goals
          go_wp2_with fail
          go_meet
          exact ⟨rfl, rfl⟩
      case rest =>
        obtain ⟨rfl, rfl⟩ := hcut
        clear hdd hd60 hd300
        go_wp2_with (at_builtin; go_loud (refine app_ownS rfl _ _ 28 rfl (wr.heap.size + 1) 5 (.int .u8 0) 1 Try.underlying28 byte_info5 rfl (by decide) _ 0 [] rfl hownE (fun h => by cases h) _ _ _ _ rfl hplE ?h1 ?hb ?hB2 ?_))
        case h1 => exact byteV_one _
        case hb => omega
        case hB2 => simp
        intro g7 c7 w7 hown7 hg7 hgb7 hgl7
        have hkOE : Keeps No (wr.alloc (.cells #[.int .i64 o.1.1, .int .i64 o.2.1.1.1, .int .i64 o.2.1.2.1.1, .int .i64 o.2.1.2.2.1, .string o.2.2.1, .slice o.2.2.2.1.1 o.2.2.2.1.2.1 o.2.2.2.1.2.2.1, .int .u64 o.2.2.2.2.1] 64)) w7 := ((Keeps.refl No _).alloc _).grown hg7 (fun i hi hlt => absurd hlt (by have hi' : wr.heap.size + 1 = i := (by injection hi); simp; omega))
        have hk7 : Keeps No wr w7 := hkO.transNo hkOE
        have hop7 := hkOE.blk hop (not_No _)
        have hV7 : VA w7 b m v A G (VX w1.heap.size b2 vl vg (fun i => i = g7)) := (hV.fresh hk7).more (fun i _ h => by
          rcases h with h | h | h
          · exact .inl (.inl h)
          · exact .inl (.inr (.inl h))
          · exact .inr (by omega))
        have hR7 := hR.kept hk7
        have hkw7 := hkr.transNo hk7
        have hz7 := hk7.size
        have hzw1 : w.heap.size ≤ w1.heap.size := hz1
        have hX7 : ∀ i, VX w1.heap.size b2 vl vg (fun i => i = g7) i → i < w7.heap.size := fun i h => by
          have := hkr.size
          rcases h with h | h | h
          · have := hR7.lt b2 (.inl rfl); omega
          · exact hR7.lt i h
          · omega
        have hs7 : Sl w7 (some ⟨g7, 0, none⟩) o.2.2.2.1.2.1 c7 (o.2.2.2.1.2.2.2.map byteV) := by
          obtain ⟨a', c', he, hsl, _⟩ := Sl.ofOwn hown7
          simp only [Value.slice.injEq, true_and] at he
          obtain ⟨rfl, rfl⟩ := he
          exact hsl
        have cO7 := op7_cells hop7
        have hPlen : o.2.2.2.1.2.2.2.length = o.2.2.2.1.2.1 := by simpa using hpl.len
        have HPlen := Lib.hid hPlen
        have hown7' := own_down (Nat.zero_le _) hown7
        clear hPlen hownE hplE hown7 hg7
        go_upto_block 2 with fail
        go_cut [] (fun wx => PlayR w w1.heap.size b m b2 j g7 o.2.2.2.1.2.1 c7 wx)
        case first =>
          cases hq0 : ((IntKind.u64.wrap o.1.1).tmod 3 == 0)
          · cases hq1 : ((IntKind.u64.wrap o.1.1).tmod 3 == 1)
            · as_aux_lemma =>
                have hdes := va_destroy b m v A G _ o.2.1 w7 hV7 (by unfold maxLen; omega)
                have hVnot7 := hV7.not
                go_wp2_with fail
                refine hdes.mono ?_
                rintro e w8 ⟨rfl, hV8, hk8⟩
                have hop8 := hk8.blk hop7 (fun h => by have := hVlt _ h; omega)
                have hR8 := hR7.keep hk8 (fun i hi h => hVnot7 i h (.inr (.inl hi)))
                have hw8 : Keeps No w w8 := hkw7.trans hk8 (fun i hi h => hVnot7 i h (.inl (by omega)))
                have hz8 := hk8.size
                have hR8' := hR8
                obtain ⟨r1, r2, r3, r4, r5, r6⟩ := hR8'
                obtain ⟨ag, cg, rfl, hsg, _⟩ := SlK.ofOwn (xs := G.map keyCells) (by decide) (keys_wide' G) r3
                have hb2l := hR8.lt b2 (.inl rfl)
                have hnop : (Value.slice ag G.length cg).ownBlock ≠ some wr.heap.size := fun h => by have := hRlt _ (.inr (.inr h)); omega
                have HS : ∀ wx, Keeps (fun i => (Value.slice ag G.length cg).ownBlock = some i) w8 wx → (wx.cell? ⟨b2, 1, none⟩ = some (.slice ag G.length cg) ∧ wx.cell? ⟨wr.heap.size, 1, none⟩ = some (.int .i64 o.2.1.1.1) ∧ wx.cell? ⟨wr.heap.size, 2, none⟩ = some (.int .i64 o.2.1.2.1.1) ∧ wx.cell? ⟨wr.heap.size, 3, none⟩ = some (.int .i64 o.2.1.2.2.1)) :=
                  fun wx hx => ⟨cell_of_row wx b2 1 _ _ (0, 0) (hx.blk r1 r5), cell_of_row wx _ 1 _ _ (0, 0) (hx.blk hop8 hnop), cell_of_row wx _ 2 _ _ (0, 0) (hx.blk hop8 hnop), cell_of_row wx _ 3 _ _ (0, 0) (hx.blk hop8 hnop)⟩
                have HS' := Lib.hid HS
                clear HS hdes cO7
                go_wp2_with fail
                refine region_L (fun wx => wx.cell? ⟨b2, 1, none⟩ = some (.slice ag G.length cg) ∧ wx.cell? ⟨wr.heap.size, 1, none⟩ = some (.int .i64 o.2.1.1.1) ∧ wx.cell? ⟨wr.heap.size, 2, none⟩ = some (.int .i64 o.2.1.2.1.1) ∧ wx.cell? ⟨wr.heap.size, 3, none⟩ = some (.int .i64 o.2.1.2.2.1)) 11 (by kernel_rfl) (HS'.out _ (Keeps.refl _ _).drew) (fun hS => ?_)
                refine tkL (i := 0) (oi := ⟨some 68, _, _, _, _, _⟩) (v := ?_) rfl (by kernel_rfl) (fun _ _ _ h => h) (by assumption) (by rfl) (fun w hSw => ?_) ?_; rotate_left; (focus (first | (go_simp; done) | (go_simp; with_reducible rfl))); simp only [Act.put, List.setIfInBounds_toArray, List.set_cons_zero, List.set_cons_succ]
                refine tkL (i := 1) (oi := ⟨some 69, _, _, _, _, _⟩) (v := ?_) rfl (by kernel_rfl) (fun _ _ _ h => h) (by assumption) (by rfl) (fun w hSw => ?_) ?_; rotate_left; (focus (first | (go_simp; done) | (go_simp; with_reducible rfl))); simp only [Act.put, List.setIfInBounds_toArray, List.set_cons_zero, List.set_cons_succ]
                refine tkL (i := 2) (oi := ⟨some 70, _, _, _, _, _⟩) (v := ?_) rfl (by kernel_rfl) (fun _ _ _ h => h) (by assumption) (by rfl) (fun w hSw => ?_) ?_; rotate_left; (focus (first | (go_simp; done) | (go_simp; with_reducible rfl))); simp only [Act.put, List.setIfInBounds_toArray, List.set_cons_zero, List.set_cons_succ]
                refine tkL (i := 3) (oi := ⟨some 71, _, _, _, _, _⟩) (v := ?_) rfl (by kernel_rfl) (fun _ _ _ h => h) (by assumption) (by rfl) (fun w hSw => ?_) ?_; rotate_left; (focus (first | (go_simp; done) | (go_simp; with_reducible rfl))); simp only [Act.put, List.setIfInBounds_toArray, List.set_cons_zero, List.set_cons_succ]
                refine tkL (i := 4) (oi := ⟨some 72, _, _, _, _, _⟩) (v := ?_) rfl (by kernel_rfl) (fun _ _ _ h => h) (by assumption) (by rfl) (fun w hSw => ?_) ?_; rotate_left; (focus (first | (go_simp; done) | (go_simp; with_reducible rfl))); simp only [Act.put, List.setIfInBounds_toArray, List.set_cons_zero, List.set_cons_succ]
                refine tkL (i := 5) (oi := ⟨some 73, _, _, _, _, _⟩) (v := ?_) rfl (by kernel_rfl) (fun _ _ _ h => h) (by assumption) (by rfl) (fun w hSw => ?_) ?_; rotate_left; (focus (first | (go_simp; done) | (go_simp; with_reducible rfl))); simp only [Act.put, List.setIfInBounds_toArray, List.set_cons_zero, List.set_cons_succ]
                refine tkL (i := 6) (oi := ⟨some 74, _, _, _, _, _⟩) (v := ?_) rfl (by kernel_rfl) (fun _ _ _ h => h) (by assumption) (by rfl) (fun w hSw => ?_) ?_; rotate_left; (focus (first | (go_simp; done) | (go_simp; with_reducible rfl))); simp only [Act.put, List.setIfInBounds_toArray, List.set_cons_zero, List.set_cons_succ]
                refine aloneL (i := 7) (oi := ⟨some 75, _, _, _, _, _⟩) rfl (by kernel_rfl) (by rfl) (fun K hK => ?_); go_simp
                have hX1 : Keeps (fun i => (Value.slice ag G.length cg).ownBlock = some i) w8 (w8.alloc (.cells (keyCells o.2.1).toArray 24)).drew := ((Keeps.refl _ _).alloc _).drew
                refine hK.out (fun wx => wx.cell? ⟨b2, 1, none⟩ = some (.slice ag G.length cg) ∧ wx.cell? ⟨wr.heap.size, 1, none⟩ = some (.int .i64 o.2.1.1.1) ∧ wx.cell? ⟨wr.heap.size, 2, none⟩ = some (.int .i64 o.2.1.2.1.1) ∧ wx.cell? ⟨wr.heap.size, 3, none⟩ = some (.int .i64 o.2.1.2.2.1)) _ _ (fun _ h => h) (fun _ => HS'.out _ hX1) ?_
                clear hK K hS
                intro hS
                replace hS := hS rfl
                refine aloneL (i := 8) (oi := ⟨some 76, _, _, _, _, _⟩) rfl (by kernel_rfl) (by rfl) (fun K hK => ?_)
                refine wp_app_ownK (.tmp 72) (.tmp 75) 37 rfl 0 24 _ 3 24 Try.underlying37 key_info5 rfl (by decide) (by decide) _ G.length _ rfl (((Keeps.refl No w8).alloc (.cells (keyCells o.2.1).toArray 24)).drew.own r3 (fun _ _ => not_No _)) _ 1 1 [keyCells o.2.1] rfl ((SlK.one w8 (keyCells o.2.1) 24 rfl).kept ((Keeps.refl No _).drew)) ?h1q (by omega) (Nat.zero_le _) ?_
                case h1q => exact keyOne5 _
                intro v2 w9 hown9 hg9 hat9
                have hX9 : Keeps (fun i => (Value.slice ag G.length cg).ownBlock = some i) w8 w9 := hX1.grown hg9 (fun i hi _ => hi)
                have hG9 : (G.map keyCells).flatten ++ [keyCells o.2.1].flatten = ((G ++ [o.2.1]).map keyCells).flatten := by simp
                rw [hG9] at hown9
                obtain ⟨a9, c9, rfl, hs9, _⟩ := SlK.ofOwn (by decide) (keys_wide' _) hown9
                have hb9 := hX9.blk r1 r5
                have hf9 := frozen_of_row w9 b2 1 _ _ hb9
                have hat9' : ∀ g, (Value.slice a9 (G.length + 1) c9).ownBlock = some g → (Value.slice ag G.length cg).ownBlock = some g ∨ w8.heap.size ≤ g := fun g hg => by
                  rcases hat9 g hg with h | h
                  · exact .inl h
                  · exact .inr (by rw [h]; simp)
                have Hat := Lib.hid hat9'
                clear hat9 hat9' hG9
                refine hK.out (fun wx => wx.cell? ⟨b2, 1, none⟩ = some (.slice ag G.length cg) ∧ wx.cell? ⟨wr.heap.size, 1, none⟩ = some (.int .i64 o.2.1.1.1) ∧ wx.cell? ⟨wr.heap.size, 2, none⟩ = some (.int .i64 o.2.1.2.1.1) ∧ wx.cell? ⟨wr.heap.size, 3, none⟩ = some (.int .i64 o.2.1.2.2.1)) _ _ (fun _ h => h) (fun _ => HS'.out _ hX9) ?_
                clear hK K hS
                intro hS
                replace hS := hS rfl
                refine aloneL (i := 9) (oi := ⟨some 77, _, _, _, _, _⟩) rfl (by kernel_rfl) (by rfl) (fun K hK => ?_); go_simp
                refine hK.out (fun wx => wx.cell? ⟨b2, 1, none⟩ = some (.slice ag G.length cg) ∧ wx.cell? ⟨wr.heap.size, 1, none⟩ = some (.int .i64 o.2.1.1.1) ∧ wx.cell? ⟨wr.heap.size, 2, none⟩ = some (.int .i64 o.2.1.2.1.1) ∧ wx.cell? ⟨wr.heap.size, 3, none⟩ = some (.int .i64 o.2.1.2.2.1)) _ _ (fun _ h => h) (fun _ => hS) ?_
                clear hK K
                intro _
                refine tkL (i := 10) (oi := ⟨some 78, _, _, _, _, _⟩) (v := ?_) rfl (by kernel_rfl) (fun _ _ _ h => h) (by assumption) (by rfl) (fun w hSw => ?_) ?_; rotate_left; (focus (first | (go_simp; done) | (go_simp; with_reducible rfl))); simp only [Act.put, List.setIfInBounds_toArray, List.set_cons_zero, List.set_cons_succ]
                refine aloneL (i := 11) (oi := ⟨none, _, _, _, _, _⟩) rfl (by kernel_rfl) (by rfl) (fun K hK => ?_); go_simp
                refine hK.out (fun wx => wx.cell? ⟨b2, 1, none⟩ = some (.slice ag G.length cg) ∧ wx.cell? ⟨wr.heap.size, 1, none⟩ = some (.int .i64 o.2.1.1.1) ∧ wx.cell? ⟨wr.heap.size, 2, none⟩ = some (.int .i64 o.2.1.2.1.1) ∧ wx.cell? ⟨wr.heap.size, 3, none⟩ = some (.int .i64 o.2.1.2.2.1)) _ _ (fun _ h => h) (fun e => absurd (show true = false from e) (by decide)) ?_
                clear hK K hS
                intro hS
                refine doneL (by kernel_rfl) ?_ _
                clear hS
                go_wp2_with fail
                go_meet
                have hb2w8 : b2 ≠ g7 := fun h => by have := hRlt b2 (.inl rfl); omega
                have hkS : Keeps (fun i => i = b2 ∨ (Value.slice ag G.length cg).ownBlock = some i) w8 (w9.setCell ⟨b2, 1, none⟩ (.slice a9 (G.length + 1) c9)) := (hX9.mono (fun i _ h => .inr h)).setCell (p := ⟨b2, 1, none⟩) (fun _ => .inl rfl) _
                have hnew := Hat.out
                refine ⟨v, vl, .slice a9 (G.length + 1) c9, A, G ++ [o.2.1], _, by omega, by simp; omega, (hV8.freshS hkS (fun i _ h => h.elim (fun h => .inr (.inl (.inl h))) (fun h => .inr (.inl (.inr (.inr h)))))).more (fun i _ h => ?_), ⟨?_, ?_, ?_, r4, fun h => ?_, fun i hi hg => ?_⟩, fun i hi => ?_, fun h => ?_, own_keepB (own_keepB hown7' hk8 (fun h => hVnot7 _ h (.inr (.inr rfl)))) hkS (fun h => ?_), hw8.trans hkS (fun i hi h => ?_)⟩
                · rcases h with h | (h | h | h) | h
                  · exact .inl (.inl h)
                  · exact .inl (.inr (.inl (.inl h)))
                  · exact .inl (.inr (.inl (.inr (.inl h))))
                  · rcases hnew i h with h | h
                    · exact .inl (.inr (.inl (.inr (.inr h))))
                    · exact .inr h
                  · exact .inl (.inr (.inr h))
                · rw [heap_setCell_same w9 b2 1 _ _ _ hb9]; rfl
                · refine hkS.own r2 (fun i hi h => ?_)
                  rcases h with h | h
                  · exact r4 (by rw [hi, h])
                  · exact r6 i hi h
                · refine (Keeps.set w9 b2 1 _).own ?_ (fun i hi h => ?_)
                  · rw [List.length_append]; exact hown9
                  · subst h
                    rcases hnew i hi with h | h
                    · exact r5 h
                    · omega
                · rcases hnew _ h with h | h
                  · exact r5 h
                  · omega
                · rcases hnew i hg with h | h
                  · exact r6 i hi h
                  · have := hRlt i (.inr (.inl hi)); omega
                · rcases hi with h | h | h
                  · rw [h]; exact hR0lt b2 (.inl rfl)
                  · exact hR0lt i (.inr (.inl h))
                  · rcases hnew i h with h | h
                    · exact hR0lt i (.inr (.inr h))
                    · have := hkr.size; have := hR0lt b2 (.inl rfl); omega
                · rcases h with h | h | h
                  · exact hb2w8 h.symm
                  · have := hRlt _ (.inr (.inl h)); omega
                  · rcases hnew _ h with h | h
                    · have := hRlt _ (.inr (.inr h)); omega
                    · omega
                · rcases h with h | h
                  · exact hb2w8 h.symm
                  · have := hRlt _ (.inr (.inr h)); omega
                · rcases h with h | h
                  · have := hR0lt b2 (.inl rfl); omega
                  · have := hR0lt i (.inr (.inr h)); omega
            · as_aux_lemma =>
                obtain ⟨hN, heN, hN64⟩ := wf_u64_nat o.2.2.2.2.2
                have hop := va_open b m v A G _ o.2.1 o.2.2.1 hN w7 hV7 hN64 (by omega)
                have hro := fun wx (hRx : RV wx b2 vl vg A G) => ropen_any b2 vl vg A G o.2.1 o.2.2.1 hN wx hRx hN64 (by omega) (by omega)
                rw [← heN] at hop
                simp only [← heN] at hro
                have HeN := Lib.hid heN
                clear heN
                obtain ⟨OA, hOA⟩ : ∃ OA, openA A G o.2.1 o.2.2.1 hN = OA := ⟨_, rfl⟩
                rw [hOA] at hop
                simp only [hOA] at hro
                have HRO2 := Lib.hid hro
                clear hOA hro
                go_wp2_with fail
                refine hop.mono ?_
                rintro e w8 ⟨a8, n8, c8, rfl, hk8, hs8, hf8, hn8, hown8⟩
                have hop8 := hk8.blk hop7 (not_No _)
                have cO8 := op7_cells hop8
                clear hop cO7
                go_wp2_with fail
                refine (HRO2.out w8 (hR7.kept hk8)).mono ?_
                rintro e w9 ⟨rfl, hk9⟩
                have es9 := strV (hs8.kept hk9)
                have hk79 := hk8.transNo hk9
                have hown9 := hk9.own hown8 (fun _ _ => not_No _)
                have hV9 := hV7.fresh hk79
                have hR9 := hR7.kept hk79
                have hw9 := hkw7.transNo hk79
                have hz9 := hk79.size
                have hlow8 : ∀ i, (Value.slice a8 n8 c8).ownBlock = some i → w7.heap.size ≤ i := fun i hi => (hown8.lt i hi).1
                clear cO8
                go_wp2_with fail
                go_loopg [146] n8 (fun q i wx => ∃ (l : Nat) (qs : List UInt8), l ≤ n8 ∧ q = n8 - l ∧ i = .int .i64 l ∧ wx.ownsRow w7.heap.size 5 1 (.slice a8 n8 c8) n8 (qs.map byteV) ∧ Keeps (fun i => (Value.slice a8 n8 c8).ownBlock = some i) w9 wx)
                case atStart => exact ⟨0, OA.1, Nat.zero_le _, rfl, rfl, hown9, Keeps.refl _ _⟩
                case round =>
                  obtain ⟨l, qs, hl, hql, rfl, hownx, hkx⟩ := hrel
                  have Hql := Lib.hid hql
                  clear hql
                  by_cases hll : l < n8
                  · have hqlen : qs.length = n8 := by have := hownx.1; simpa using this
                    obtain ⟨g8, rfl⟩ : ∃ g8, a8 = some ⟨g8, 0, none⟩ := by
                      obtain ⟨a', c', he, hsx, hax⟩ := Sl.ofOwn hownx
                      simp only [Value.slice.injEq, true_and] at he
                      obtain ⟨rfl, rfl⟩ := he
                      obtain ⟨g, hg, _⟩ := hax _ (hsx.isSome hll)
                      exact ⟨g, (hsx.isSome hll).trans (by rw [hg])⟩
                    have hcl := hownx.cellAt l (by omega)
                    obtain ⟨x, hx⟩ : ∃ x, x = qs[l]'(by omega) := ⟨_, rfl⟩
                    rw [List.getElem?_map, List.getElem?_eq_getElem (by omega), Option.map_some, ← hx] at hcl
                    have hfl := hownx.frozenAt l
                    have hxor := xor_u8 x 255
                    rw [show ((255 : UInt8).toNat : Int) = 255 from rfl] at hxor
                    have hst := hownx.stored l (.int .u8 ((x ^^^ 255).toNat : Int))
                    have hset : (qs.map byteV).set l (.int .u8 ((x ^^^ 255).toNat : Int)) = (qs.set l (x ^^^ 255)).map byteV := by rw [List.map_set]; rfl
                    rw [hset] at hst
                    unfold byteV at hcl
                    have Hst := Lib.hid hst
                    clear hst hset hx
                    go_wp2_with fail
                    go_roundg (n8 - (l + 1))
                    case measure => have := Hql.out; omega
                    case rel => exact ⟨l + 1, _, by omega, rfl, by go_num, Hst.out.1, hkx.grown Hst.out.2 (fun i hi _ => hi)⟩
                  · obtain rfl : n8 = l := by omega
                    go_wp2_with fail
                    go_meet
                    refine ⟨v, vl, vg, A, G, _, by omega, by omega, (hV9.keep hkx (fun i _ h => .inr (hlow8 i h))).more (fun i _ h => .inl h), hR9.keep hkx (fun i hi h => by have := hlow8 i h; have := hRlt i hi; omega), hR0lt, fun h => by have := hRlt _ h; omega, own_keepB (own_keepB hown7' hk79 (not_No _)) hkx (fun h => by have := hlow8 _ h; omega), hw9.trans hkx (fun i hi h => by have := hlow8 i h; have := hkw7.size; omega)⟩
          · as_aux_lemma =>
              have hseal := va_seal b m v A G _ o.2.1 o.2.2.1 (some ⟨g7, 0, none⟩) _ c7 o.2.2.2.1.2.2.2 w7 hV7 hX7 hs7 (by omega) (by omega)
              have hlenS := sealA_len A G o.2.1 o.2.2.1 o.2.2.2.1.2.2.2
              have hrs := fun wx (hRx : RV wx b2 vl vg A G) => r_seal b2 vl vg A G o.2.1 o.2.2.1 o.2.2.2.1.2.2.2 wx hRx (by rw [HPlen.out]; exact hpn) (by omega) (by omega)
              obtain ⟨SA, hSA⟩ : ∃ SA, sealA A G o.2.1 o.2.2.1 o.2.2.2.1.2.2.2 = SA := ⟨_, rfl⟩
              rw [hSA] at hseal hlenS
              simp only [hSA] at hrs
              clear hSA
              have hVnot7 := hV7.not
              have HRS := Lib.hid hrs
              clear hrs
              go_wp2_with fail
              refine hseal.mono ?_
              rintro e w8 ⟨rfl, v', hV8, ho8, hk8⟩
              have hop8 := hk8.blk hop7 (fun h => by have := hVlt _ h; omega)
              have cO8 := op7_cells hop8
              have hR8 := hR7.keep hk8 (fun i hi h => hVnot7 i h (.inr (.inl hi)))
              have hkw8 : Keeps No w w8 := hkw7.trans hk8 (fun i hi h => hVnot7 i h (.inl (by omega)))
              have es8 := strV (hpl.kept hkw8)
              have hz8 := hk8.size
              clear hseal cO7
              go_wp2_with fail
              refine (HRS.out w8 hR8).mono ?_
              rintro e w9 ⟨rfl, vl', hR9, hol9, hk9⟩
              go_wp2_with fail
              go_meet
              have hb2lt := hRlt b2 (.inl rfl)
              have hol9' : ∀ i, vl'.ownBlock = some i → vl.ownBlock = some i ∨ w8.heap.size ≤ i := hol9
              refine ⟨v', vl', vg, SA.1, G, _, by omega, by omega, (hV8.freshS hk9 (fun i _ h => .inr (.inl (.inl h)))).more (fun i _ h => ?_), hR9, fun i hi => ?_, fun h => ?_, own_keepB (own_keepB hown7' hk8 (fun h => hVnot7 _ h (.inr (.inr rfl)))) hk9 (fun h => by omega), hkw8.trans hk9 (fun i hi h => by have := hR0lt b2 (.inl rfl); omega)⟩
              · rcases h with h | (h | h | h) | h
                · exact .inl (.inl h)
                · exact .inl (.inr (.inl (.inl h)))
                · rcases hol9' i h with h | h
                  · exact .inl (.inr (.inl (.inr (.inl h))))
                  · exact .inr h
                · exact .inl (.inr (.inl (.inr (.inr h))))
                · exact .inl (.inr (.inr h))
              · rcases hi with h | h | h
                · rw [h]; exact hR0lt b2 (.inl rfl)
                · rcases hol9' i h with h | h
                  · exact hR0lt i (.inr (.inl h))
                  · have := hkr.size; have := hR0lt b2 (.inl rfl); omega
                · exact hR0lt i (.inr (.inr h))
              · rcases h with h | h | h
                · omega
                · rcases hol9' _ h with h | h
                  · have := hRlt _ (.inr (.inl h)); omega
                  · omega
                · have := hRlt _ (.inr (.inr h)); omega
        case rest => as_aux_lemma =>
          obtain ⟨v', vl', vg', A', G', q7, hA', hG', hV', hR', hRO', hng, hown', hk'⟩ := hcut
          have hg7w : w.heap.size ≤ g7 := by have := hkr.size; omega
          clear hV hR hV7 hR7 hs7 hown7' hVlt hVnot hRlt hR0lt hkW0 hpl0 hkO hkOE hk7 hop hop7 cO7 hX7 hgb7 hgl7 hkw7 HRO HPlen hpl hAj hGj
          have hb2l' := hR'.lt
          go_wp2_with fail
          go_loopg [158] o.2.2.2.1.2.1 (fun q i wx => ∃ (l : Nat) (qs : List UInt8), l ≤ o.2.2.2.1.2.1 ∧ q = o.2.2.2.1.2.1 - l ∧ i = .int .i64 l ∧ wx.ownsRow 0 5 1 (.slice (some ⟨g7, 0, none⟩) o.2.2.2.1.2.1 c7) o.2.2.2.1.2.1 (qs.map byteV) ∧ Keeps (fun i => i = g7) wc wx)
          case atStart => exact ⟨0, q7, Nat.zero_le _, rfl, rfl, hown', Keeps.refl _ _⟩
          case round =>
            obtain ⟨l, qs, hl, hql, rfl, hownx, hkx⟩ := hrel
            have Hql := Lib.hid hql
            clear hql
            by_cases hll : l < o.2.2.2.1.2.1
            · as_aux_lemma =>
                have hqlen : qs.length = o.2.2.2.1.2.1 := by have := hownx.1; simpa using this
                have hcl := hownx.cellAt l (by omega)
                obtain ⟨x, hx⟩ : ∃ x, x = qs[l]'(by omega) := ⟨_, rfl⟩
                rw [List.getElem?_map, List.getElem?_eq_getElem (by omega), Option.map_some, ← hx] at hcl
                have hfl := hownx.frozenAt l
                have hxor := xor_u8 x 255
                rw [show ((255 : UInt8).toNat : Int) = 255 from rfl] at hxor
                have hst := hownx.stored l (.int .u8 ((x ^^^ 255).toNat : Int))
                have hset : (qs.map byteV).set l (.int .u8 ((x ^^^ 255).toNat : Int)) = (qs.set l (x ^^^ 255)).map byteV := by rw [List.map_set]; rfl
                rw [hset] at hst
                unfold byteV at hcl
                have Hst := Lib.hid hst
                clear hst hset hx
                go_wp2_with fail
                go_roundg (o.2.2.2.1.2.1 - (l + 1))
                case measure => have := Hql.out; omega
                case rel => exact ⟨l + 1, _, by omega, rfl, by go_num, Hst.out.1, hkx.grown Hst.out.2 (fun i hi _ => by injection hi with hi; exact hi.symm)⟩
            · obtain ⟨w10, hw10⟩ : ∃ w10 : World, w10 = wr := ⟨_, rfl⟩
              subst hw10
              have hV10 := hV'.keep hkx (fun i _ h => .inr (.inr h))
              have hR10 := hR'.keep hkx (fun i hi h => hng (h ▸ hi))
              have hk10 : Keeps No w w10 := hk'.trans hkx (fun i hi h => by omega)
              have hlast := hV10
              have hR10' := hR10
              obtain ⟨r1, r2, r3, r4, r5, r6⟩ := hR10'
              have hb2l := hR10.lt b2 (.inl rfl)
              obtain ⟨al, cl, rfl, hsl, _⟩ := SlK.ofOwn (xs := A'.map recCells) (by decide) (recs_wide A') r2
              have hc10 := cell_of_row w10 b2 0 _ _ (0, 0) r1
              clear hown' hownx hV' hR' Hql
              go_wp2_with fail
              go_loopg [18] (A'.length + 2) (fun q i wx => ∃ (h : Nat), h ≤ A'.length + 2 ∧ q = A'.length + 2 - h ∧ i = .int .u64 h ∧ Keeps No w10 wx)
              case atStart => exact ⟨0, Nat.zero_le _, rfl, rfl, Keeps.refl _ _⟩
              case round =>
                obtain ⟨h, hh, hqh, rfl, hkz⟩ := hrel
                have Hqh := Lib.hid hqh
                clear hqh
                have hcz := cell_of_row wr b2 0 _ _ (0, 0) (hkz.blk r1 (not_No _))
                have hzz := hkz.size
                have hVz := hV10.kept hkz
                by_cases hle2 : h ≤ A'.length + 1
                · have hu := va_under b m v' A' G' _ h wr hVz (by omega) (by omega)
                  by_cases hin : 1 ≤ h ∧ h ≤ A'.length
                  · as_aux_lemma =>
                      obtain ⟨hh1, hh2⟩ := hin
                      have hi1 : h - 1 < A'.length := by omega
                      obtain ⟨x, hx⟩ : ∃ x, x = A'[h - 1] := ⟨_, rfl⟩
                      rw [underA_hit A' h hh1 hh2, ← hx] at hu
                      have hxc : (A'.map recCells).getD (h - 1) [] = recCells x := by rw [hx]; simp [hi1]
                      unfold keyCells at hu
                      go_wp2_with fail
                      refine hu.mono ?_
                      rintro e w11 ⟨rfl, hk11⟩
                      have hc11 := cell_of_row w11 b2 0 _ _ (0, 0) (hk11.blk (hkz.blk r1 (not_No _)) (not_No _))
                      have hz11 := hk11.size
                      have hb211 : b2 < w11.heap.size := by omega
                      have hbK := heap_alloc_new w11 (.cells #[.int .i64 x.1.1.1, .int .i64 x.1.2.1.1, .int .i64 x.1.2.2.1] 24)
                      have hkK : Keeps No w11 (w11.alloc (.cells #[.int .i64 x.1.1.1, .int .i64 x.1.2.1.1, .int .i64 x.1.2.2.1] 24)) := (Keeps.refl No w11).alloc _
                      have hsz := hsl.kept ((hkz.transNo hk11).transNo hkK)
                      have hix := hsz.ixz (P := Try.prog) Try.underlying60 (by kernel_rfl) ((h : Int) - 1) (i := h - 1) (by omega) hi1 .u64
                      obtain ⟨hld, _⟩ := load_cells (P := Try.prog) (w := (w11.alloc (.cells #[.int .i64 x.1.1.1, .int .i64 x.1.2.1.1, .int .i64 x.1.2.2.1] 24)).drew) (ty := 24) Try.underlying24 rfl (k := 3) (by kernel_rfl) ((al.getD default).add ((h - 1) * 5)) (keyCells x.1) rfl (fun jj u hu => by
                        have hj : jj < 3 := (List.getElem?_eq_some_iff.1 hu).1
                        have := hsz.at_ (i := h - 1) (j := jj) hi1 (by omega)
                        rw [Addr.add_add]
                        refine this.trans ?_
                        rw [hxc]
                        have h2 : (recCells x).getD jj undef = (keyCells x.1).getD jj undef := by
                          unfold recCells
                          simp [List.getD, List.getElem?_append_left (show jj < (keyCells x.1).length from hj)]
                        rw [h2]
                        simp [List.getD, hu])
                      have hneq := fun wy => key_neq x.1 x.1 wy
                      simp only [decide_true, Bool.not_true] at hneq
                      unfold keyCells at hld hneq
                      have hwr : IntKind.u64.wrap ((h : Int) - 1) = (h : Int) - 1 := by rw [IntKind.wrap_u64]; omega
                      clear hu hx hxc hcz
                      go_wp2_with fail
                      refine wp_region_held_drew (S := fun wx => wx.cell? ⟨b2, 0, none⟩ = some (.slice al A'.length cl) ∧ wx.cell? ⟨w11.heap.size, 0, none⟩ = some (.int .i64 x.1.1.1) ∧ wx.cell? ⟨w11.heap.size, 1, none⟩ = some (.int .i64 x.1.2.1.1) ∧ wx.cell? ⟨w11.heap.size, 2, none⟩ = some (.int .i64 x.1.2.2.1)) (by kernel_rfl) (⟨hkK.drew.cell hc11 (not_No _), cell_of_row _ _ 0 _ _ (0, 0) hbK, cell_of_row _ _ 1 _ _ (0, 0) hbK, cell_of_row _ _ 2 _ _ (0, 0) hbK⟩) (fun hS => ?_)
                      refine tk (i := 0) (oi := ⟨some 197, _, _, _, _, _⟩) (v := ?_) rfl (by kernel_rfl) (fun _ _ _ h => h) (by assumption) (by rfl) (fun w hSw => ?_) ?_; rotate_left; (focus (first | (go_simp; done) | (go_simp; with_reducible rfl))); simp only [Act.put, List.setIfInBounds_toArray, List.set_cons_zero, List.set_cons_succ]
                      refine tk (i := 1) (oi := ⟨some 198, _, _, _, _, _⟩) (v := ?_) rfl (by kernel_rfl) (fun _ _ _ h => h) (by assumption) (by rfl) (fun w hSw => ?_) ?_; rotate_left; (focus (first | (go_simp; done) | (go_simp; with_reducible rfl))); simp only [Act.put, List.setIfInBounds_toArray, List.set_cons_zero, List.set_cons_succ]
                      refine tk (i := 2) (oi := ⟨some 199, _, _, _, _, _⟩) (v := ?_) rfl (by kernel_rfl) (fun _ _ _ h => h) (by assumption) (by rfl) (fun w hSw => ?_) ?_; rotate_left; (focus (first | (go_simp; done) | (go_simp; with_reducible rfl))); simp only [Act.put, List.setIfInBounds_toArray, List.set_cons_zero, List.set_cons_succ]
                      refine tk (i := 3) (oi := ⟨some 200, _, _, _, _, _⟩) (v := ?_) rfl (by kernel_rfl) (fun _ _ _ h => h) (by assumption) (by rfl) (fun w hSw => ?_) ?_; rotate_left; (focus (first | (go_simp; done) | (go_simp; with_reducible rfl))); simp only [Act.put, List.setIfInBounds_toArray, List.set_cons_zero, List.set_cons_succ]
                      refine tk (i := 4) (oi := ⟨some 201, _, _, _, _, _⟩) (v := ?_) rfl (by kernel_rfl) (fun _ _ _ h => h) (by assumption) (by rfl) (fun w hSw => ?_) ?_; rotate_left; (focus (first | (go_simp; done) | (go_simp; with_reducible rfl))); simp only [Act.put, List.setIfInBounds_toArray, List.set_cons_zero, List.set_cons_succ]
                      refine tk (i := 5) (oi := ⟨some 202, _, _, _, _, _⟩) (v := ?_) rfl (by kernel_rfl) (fun _ _ _ h => h) (by assumption) (by rfl) (fun w hSw => ?_) ?_; rotate_left; (focus (first | (go_simp; done) | (go_simp; with_reducible rfl))); simp only [Act.put, List.setIfInBounds_toArray, List.set_cons_zero, List.set_cons_succ]
                      refine tk (i := 6) (oi := ⟨some 203, _, _, _, _, _⟩) (v := ?_) rfl (by kernel_rfl) (fun _ _ _ h => h) (by assumption) (by rfl) (fun w hSw => ?_) ?_; rotate_left; (focus (first | (go_simp; done) | (go_simp; with_reducible rfl))); simp only [Act.put, List.setIfInBounds_toArray, List.set_cons_zero, List.set_cons_succ]
                      refine tk (i := 7) (oi := ⟨some 204, _, _, _, _, _⟩) (v := ?_) rfl (by kernel_rfl) (fun _ _ _ h => h) (by assumption) (by rfl) (fun w hSw => ?_) ?_; rotate_left; (focus (first | (go_simp; done) | (go_simp; with_reducible rfl))); simp only [Act.put, List.setIfInBounds_toArray, List.set_cons_zero, List.set_cons_succ]
                      refine tk (i := 8) (oi := ⟨some 205, _, _, _, _, _⟩) (v := ?_) rfl (by kernel_rfl) (fun _ _ _ h => h) (by assumption) (by rfl) (fun w hSw => ?_) ?_; rotate_left; (focus (first | (go_simp; done) | (go_simp; with_reducible rfl))); simp only [Act.put, List.setIfInBounds_toArray, List.set_cons_zero, List.set_cons_succ]
                      refine tk (i := 9) (oi := ⟨some 206, _, _, _, _, _⟩) (v := ?_) rfl (by kernel_rfl) (fun _ _ _ h => h) (by assumption) (by rfl) (fun w hSw => ?_) ?_; rotate_left; (focus (first | (go_simp; done) | (go_simp; with_reducible rfl))); simp only [Act.put, List.setIfInBounds_toArray, List.set_cons_zero, List.set_cons_succ]
                      refine tk (i := 10) (oi := ⟨some 207, _, _, _, _, _⟩) (v := ?_) rfl (by kernel_rfl) (fun _ _ _ h => h) (by assumption) (by rfl) (fun w hSw => ?_) ?_; rotate_left; (focus (first | (go_simp; done) | (go_simp; with_reducible rfl))); simp only [Act.put, List.setIfInBounds_toArray, List.set_cons_zero, List.set_cons_succ]
                      refine tk (i := 11) (oi := ⟨some 208, _, _, _, _, _⟩) (v := ?_) rfl (by kernel_rfl) (fun _ _ _ h => h) (by assumption) (by rfl) (fun w hSw => ?_) ?_; rotate_left; (focus (first | (go_simp; done) | (go_simp; with_reducible rfl))); simp only [Act.put, List.setIfInBounds_toArray, List.set_cons_zero, List.set_cons_succ]
                      refine tk (i := 12) (oi := ⟨some 209, _, _, _, _, _⟩) (v := ?_) rfl (by kernel_rfl) (fun _ _ _ h => h) (by assumption) (by rfl) (fun w hSw => ?_) ?_; rotate_left; (focus (first | (go_simp; done) | (go_simp; with_reducible rfl))); simp only [Act.put, List.setIfInBounds_toArray, List.set_cons_zero, List.set_cons_succ]
                      refine tk (i := 13) (oi := ⟨some 210, _, _, _, _, _⟩) (v := ?_) rfl (by kernel_rfl) (fun _ _ _ h => h) (by assumption) (by rfl) (fun w hSw => ?_) ?_; rotate_left; (focus (first | (go_simp; done) | (go_simp; with_reducible rfl))); simp only [Act.put, List.setIfInBounds_toArray, List.set_cons_zero, List.set_cons_succ]
                      refine tk (i := 14) (oi := ⟨some 211, _, _, _, _, _⟩) (v := ?_) rfl (by kernel_rfl) (fun _ _ _ h => h) (by assumption) (by rfl) (fun w hSw => ?_) ?_; rotate_left; (focus (first | (go_simp; done) | (go_simp; with_reducible rfl))); simp only [Act.put, List.setIfInBounds_toArray, List.set_cons_zero, List.set_cons_succ]
                      refine alone (i := 15) (oi := ⟨some 212, _, _, _, _, _⟩) rfl (by kernel_rfl) (by rfl) (fun K hK => ?_)
                      refine wp_loadV 24 (.tmp 211) rfl _ rfl _ hld ?_
                      refine hK.out (fun wx => wx.cell? ⟨b2, 0, none⟩ = some (.slice al A'.length cl) ∧ wx.cell? ⟨w11.heap.size, 0, none⟩ = some (.int .i64 x.1.1.1) ∧ wx.cell? ⟨w11.heap.size, 1, none⟩ = some (.int .i64 x.1.2.1.1) ∧ wx.cell? ⟨w11.heap.size, 2, none⟩ = some (.int .i64 x.1.2.2.1)) _ _ (fun _ h => h) (hS) ?_
                      clear hK K hS
                      intro hS
                      refine tk (i := 16) (oi := ⟨some 213, _, _, _, _, _⟩) (v := ?_) rfl (by kernel_rfl) (fun _ _ _ h => h) (by assumption) (by rfl) (fun w hSw => ?_) ?_; rotate_left; (focus (first | (go_simp; done) | (go_simp; with_reducible rfl))); simp only [Act.put, List.setIfInBounds_toArray, List.set_cons_zero, List.set_cons_succ]
                      refine tk (i := 17) (oi := ⟨some 214, _, _, _, _, _⟩) (v := ?_) rfl (by kernel_rfl) (fun _ _ _ h => h) (by assumption) (by rfl) (fun w hSw => ?_) ?_; rotate_left; (focus (first | (go_simp; done) | (go_simp; with_reducible rfl))); simp only [Act.put, List.setIfInBounds_toArray, List.set_cons_zero, List.set_cons_succ]
                      refine tk (i := 18) (oi := ⟨some 215, _, _, _, _, _⟩) (v := ?_) rfl (by kernel_rfl) (fun _ _ _ h => h) (by assumption) (by rfl) (fun w hSw => ?_) ?_; rotate_left; (focus (first | (go_simp; done) | (go_simp; with_reducible rfl))); simp only [Act.put, List.setIfInBounds_toArray, List.set_cons_zero, List.set_cons_succ]
                      refine tk (i := 19) (oi := ⟨some 216, _, _, _, _, _⟩) (v := ?_) rfl (by kernel_rfl) (fun _ _ _ h => h) (by assumption) (by rfl) (fun w hSw => ?_) ?_; rotate_left; (focus (first | (go_simp; done) | (go_simp; with_reducible rfl))); simp only [Act.put, List.setIfInBounds_toArray, List.set_cons_zero, List.set_cons_succ]
                      refine tk (i := 20) (oi := ⟨some 217, _, _, _, _, _⟩) (v := ?_) rfl (by kernel_rfl) (fun _ _ _ h => h) (by assumption) (by rfl) (fun w hSw => ?_) ?_; rotate_left; (focus (first | (go_simp; done) | (go_simp; with_reducible rfl))); simp only [Act.put, List.setIfInBounds_toArray, List.set_cons_zero, List.set_cons_succ]
                      refine tk (i := 21) (oi := ⟨some 218, _, _, _, _, _⟩) (v := ?_) rfl (by kernel_rfl) (fun _ _ _ h => h) (by assumption) (by rfl) (fun w hSw => ?_) ?_; rotate_left; (focus (first | (go_simp; done) | (go_simp; with_reducible rfl))); simp only [Act.put, List.setIfInBounds_toArray, List.set_cons_zero, List.set_cons_succ]
                      refine tk (i := 22) (oi := ⟨some 219, _, _, _, _, _⟩) (v := ?_) rfl (by kernel_rfl) (fun _ _ _ h => h) (by assumption) (by rfl) (fun w hSw => ?_) ?_; rotate_left; (focus (first | (go_simp; done) | (go_simp; with_reducible rfl))); simp only [Act.put, List.setIfInBounds_toArray, List.set_cons_zero, List.set_cons_succ]
                      refine tkNot (i := 23) (oi := ⟨some 220, _, _, _, _, _⟩) rfl (by kernel_rfl) (fun _ _ _ h => h) (by assumption) (by rfl) ?_; simp only [Act.put, List.setIfInBounds_toArray, List.set_cons_zero, List.set_cons_succ]
                      refine tkNot (i := 24) (oi := ⟨some 221, _, _, _, _, _⟩) rfl (by kernel_rfl) (fun _ _ _ h => h) (by assumption) (by rfl) ?_; simp only [Act.put, List.setIfInBounds_toArray, List.set_cons_zero, List.set_cons_succ]
                      refine tkNot (i := 25) (oi := ⟨some 222, _, _, _, _, _⟩) rfl (by kernel_rfl) (fun _ _ _ h => h) (by assumption) (by rfl) ?_; simp only [Act.put, List.setIfInBounds_toArray, List.set_cons_zero, List.set_cons_succ]
                      refine tk (i := 26) (oi := ⟨some 223, _, _, _, _, _⟩) (v := ?_) rfl (by kernel_rfl) (fun _ _ _ h => h) (by assumption) (by rfl) (fun w hSw => ?_) ?_; rotate_left; (focus (first | (go_simp; done) | (go_simp; with_reducible rfl))); simp only [Act.put, List.setIfInBounds_toArray, List.set_cons_zero, List.set_cons_succ]
                      refine tk (i := 27) (oi := ⟨some 224, _, _, _, _, _⟩) (v := ?_) rfl (by kernel_rfl) (fun _ _ _ h => h) (by assumption) (by rfl) (fun w hSw => ?_) ?_; rotate_left; (focus (first | (go_simp; done) | (go_simp; with_reducible rfl))); simp only [Act.put, List.setIfInBounds_toArray, List.set_cons_zero, List.set_cons_succ]
                      refine wpAnyH_done (by kernel_rfl) ?_ _
                      clear hS
                      go_wp2_with fail
                      go_roundg (A'.length + 2 - (h + 1))
                      case measure => have := Hqh.out; omega
                      case rel => exact ⟨h + 1, by omega, rfl, by go_num, ((hkz.transNo hk11).transNo hkK).drew⟩
                  · as_aux_lemma =>
                      rw [underA_miss A' h (by omega)] at hu
                      have hdd : (decide ((1 : Int) ≤ h) = false) ∨ (decide ((1 : Int) ≤ h) = true ∧ decide (h ≤ A'.length) = false) := by
                        by_cases h0 : h = 0
                        · exact .inl (by simp; omega)
                        · exact .inr ⟨by simp; omega, by simp; omega⟩
                      have hneq := fun wy => key_neq zeroKey zeroKey wy
                      simp only [decide_true, Bool.not_true] at hneq
                      unfold keyCells zeroKey at hu hneq
                      clear hin
                      rcases hdd with hdd | ⟨hdd, hdd2⟩
                      all_goals
                        go_wp2_with fail
                        refine hu.mono ?_
                        rintro e w11 ⟨rfl, hk11⟩
                        have hc11 := cell_of_row w11 b2 0 _ _ (0, 0) (hk11.blk (hkz.blk r1 (not_No _)) (not_No _))
                        have hz11 := hk11.size
                        have hb211 : b2 < w11.heap.size := by omega
                        have hbK := heap_alloc_new w11 (.cells #[.int .i64 0, .int .i64 0, .int .i64 0] 24)
                        have hkK : Keeps No w11 (w11.alloc (.cells #[.int .i64 0, .int .i64 0, .int .i64 0] 24)) := (Keeps.refl No w11).alloc _
                        clear hu hcz
                        go_wp2_with fail
                        refine wp_region_held_drew (S := fun wx => wx.cell? ⟨w11.heap.size, 0, none⟩ = some (.int .i64 0) ∧ wx.cell? ⟨w11.heap.size, 1, none⟩ = some (.int .i64 0) ∧ wx.cell? ⟨w11.heap.size, 2, none⟩ = some (.int .i64 0)) (by kernel_rfl) (⟨cell_of_row (w11.alloc (.cells #[.int .i64 0, .int .i64 0, .int .i64 0] 24)).drew _ 0 _ _ (0, 0) hbK, cell_of_row _ _ 1 _ _ (0, 0) hbK, cell_of_row _ _ 2 _ _ (0, 0) hbK⟩) (fun hS => ?_)
                        refine tk (i := 0) (oi := ⟨some 197, _, _, _, _, _⟩) (v := ?_) rfl (by kernel_rfl) (fun _ _ _ h => h) (by assumption) (by rfl) (fun w hSw => ?_) ?_; rotate_left; (focus (first | (go_simp; done) | (go_simp; with_reducible rfl))); simp only [Act.put, List.setIfInBounds_toArray, List.set_cons_zero, List.set_cons_succ]
                        refine tk (i := 1) (oi := ⟨some 198, _, _, _, _, _⟩) (v := ?_) rfl (by kernel_rfl) (fun _ _ _ h => h) (by assumption) (by rfl) (fun w hSw => ?_) ?_; rotate_left; (focus (first | (go_simp; done) | (go_simp; with_reducible rfl))); simp only [Act.put, List.setIfInBounds_toArray, List.set_cons_zero, List.set_cons_succ]
                        refine tk (i := 2) (oi := ⟨some 199, _, _, _, _, _⟩) (v := ?_) rfl (by kernel_rfl) (fun _ _ _ h => h) (by assumption) (by rfl) (fun w hSw => ?_) ?_; rotate_left; (focus (first | (go_simp; done) | (go_simp; with_reducible rfl))); simp only [Act.put, List.setIfInBounds_toArray, List.set_cons_zero, List.set_cons_succ]
                        refine tk (i := 3) (oi := ⟨some 200, _, _, _, _, _⟩) (v := ?_) rfl (by kernel_rfl) (fun _ _ _ h => h) (by assumption) (by rfl) (fun w hSw => ?_) ?_; rotate_left; (focus (first | (go_simp; done) | (go_simp; with_reducible rfl))); simp only [Act.put, List.setIfInBounds_toArray, List.set_cons_zero, List.set_cons_succ]
                        refine tk (i := 4) (oi := ⟨some 201, _, _, _, _, _⟩) (v := ?_) rfl (by kernel_rfl) (fun _ _ _ h => h) (by assumption) (by rfl) (fun w hSw => ?_) ?_; rotate_left; (focus (first | (go_simp; done) | (go_simp; with_reducible rfl))); simp only [Act.put, List.setIfInBounds_toArray, List.set_cons_zero, List.set_cons_succ]
                        refine tk (i := 5) (oi := ⟨some 202, _, _, _, _, _⟩) (v := ?_) rfl (by kernel_rfl) (fun _ _ _ h => h) (by assumption) (by rfl) (fun w hSw => ?_) ?_; rotate_left; (focus (first | (go_simp; done) | (go_simp; with_reducible rfl))); simp only [Act.put, List.setIfInBounds_toArray, List.set_cons_zero, List.set_cons_succ]
                        refine tkNot (i := 6) (oi := ⟨some 203, _, _, _, _, _⟩) rfl (by kernel_rfl) (fun _ _ _ h => h) (by assumption) (by rfl) ?_; simp only [Act.put, List.setIfInBounds_toArray, List.set_cons_zero, List.set_cons_succ]
                        refine tkNot (i := 7) (oi := ⟨some 204, _, _, _, _, _⟩) rfl (by kernel_rfl) (fun _ _ _ h => h) (by assumption) (by rfl) ?_; simp only [Act.put, List.setIfInBounds_toArray, List.set_cons_zero, List.set_cons_succ]
                        refine tkNot (i := 8) (oi := ⟨some 205, _, _, _, _, _⟩) rfl (by kernel_rfl) (fun _ _ _ h => h) (by assumption) (by rfl) ?_; simp only [Act.put, List.setIfInBounds_toArray, List.set_cons_zero, List.set_cons_succ]
                        refine tkNot (i := 9) (oi := ⟨some 206, _, _, _, _, _⟩) rfl (by kernel_rfl) (fun _ _ _ h => h) (by assumption) (by rfl) ?_; simp only [Act.put, List.setIfInBounds_toArray, List.set_cons_zero, List.set_cons_succ]
                        refine tkNot (i := 10) (oi := ⟨some 207, _, _, _, _, _⟩) rfl (by kernel_rfl) (fun _ _ _ h => h) (by assumption) (by rfl) ?_; simp only [Act.put, List.setIfInBounds_toArray, List.set_cons_zero, List.set_cons_succ]
                        refine tkNot (i := 11) (oi := ⟨some 208, _, _, _, _, _⟩) rfl (by kernel_rfl) (fun _ _ _ h => h) (by assumption) (by rfl) ?_; simp only [Act.put, List.setIfInBounds_toArray, List.set_cons_zero, List.set_cons_succ]
                        refine tkNot (i := 12) (oi := ⟨some 209, _, _, _, _, _⟩) rfl (by kernel_rfl) (fun _ _ _ h => h) (by assumption) (by rfl) ?_; simp only [Act.put, List.setIfInBounds_toArray, List.set_cons_zero, List.set_cons_succ]
                        refine tkNot (i := 13) (oi := ⟨some 210, _, _, _, _, _⟩) rfl (by kernel_rfl) (fun _ _ _ h => h) (by assumption) (by rfl) ?_; simp only [Act.put, List.setIfInBounds_toArray, List.set_cons_zero, List.set_cons_succ]
                        refine tkNot (i := 14) (oi := ⟨some 211, _, _, _, _, _⟩) rfl (by kernel_rfl) (fun _ _ _ h => h) (by assumption) (by rfl) ?_; simp only [Act.put, List.setIfInBounds_toArray, List.set_cons_zero, List.set_cons_succ]
                        refine tkNot (i := 15) (oi := ⟨some 212, _, _, _, _, _⟩) rfl (by kernel_rfl) (fun _ _ _ h => h) (by assumption) (by rfl) ?_; simp only [Act.put, List.setIfInBounds_toArray, List.set_cons_zero, List.set_cons_succ]
                        refine tkNot (i := 16) (oi := ⟨some 213, _, _, _, _, _⟩) rfl (by kernel_rfl) (fun _ _ _ h => h) (by assumption) (by rfl) ?_; simp only [Act.put, List.setIfInBounds_toArray, List.set_cons_zero, List.set_cons_succ]
                        refine tk (i := 17) (oi := ⟨some 214, _, _, _, _, _⟩) (v := ?_) rfl (by kernel_rfl) (fun _ _ _ h => h) (by assumption) (by rfl) (fun w hSw => ?_) ?_; rotate_left; (focus (first | (go_simp; done) | (go_simp; with_reducible rfl))); simp only [Act.put, List.setIfInBounds_toArray, List.set_cons_zero, List.set_cons_succ]
                        refine tk (i := 18) (oi := ⟨some 215, _, _, _, _, _⟩) (v := ?_) rfl (by kernel_rfl) (fun _ _ _ h => h) (by assumption) (by rfl) (fun w hSw => ?_) ?_; rotate_left; (focus (first | (go_simp; done) | (go_simp; with_reducible rfl))); simp only [Act.put, List.setIfInBounds_toArray, List.set_cons_zero, List.set_cons_succ]
                        refine tk (i := 19) (oi := ⟨some 216, _, _, _, _, _⟩) (v := ?_) rfl (by kernel_rfl) (fun _ _ _ h => h) (by assumption) (by rfl) (fun w hSw => ?_) ?_; rotate_left; (focus (first | (go_simp; done) | (go_simp; with_reducible rfl))); simp only [Act.put, List.setIfInBounds_toArray, List.set_cons_zero, List.set_cons_succ]
                        refine tk (i := 20) (oi := ⟨some 217, _, _, _, _, _⟩) (v := ?_) rfl (by kernel_rfl) (fun _ _ _ h => h) (by assumption) (by rfl) (fun w hSw => ?_) ?_; rotate_left; (focus (first | (go_simp; done) | (go_simp; with_reducible rfl))); simp only [Act.put, List.setIfInBounds_toArray, List.set_cons_zero, List.set_cons_succ]
                        refine tk (i := 21) (oi := ⟨some 218, _, _, _, _, _⟩) (v := ?_) rfl (by kernel_rfl) (fun _ _ _ h => h) (by assumption) (by rfl) (fun w hSw => ?_) ?_; rotate_left; (focus (first | (go_simp; done) | (go_simp; with_reducible rfl))); simp only [Act.put, List.setIfInBounds_toArray, List.set_cons_zero, List.set_cons_succ]
                        refine tk (i := 22) (oi := ⟨some 219, _, _, _, _, _⟩) (v := ?_) rfl (by kernel_rfl) (fun _ _ _ h => h) (by assumption) (by rfl) (fun w hSw => ?_) ?_; rotate_left; (focus (first | (go_simp; done) | (go_simp; with_reducible rfl))); simp only [Act.put, List.setIfInBounds_toArray, List.set_cons_zero, List.set_cons_succ]
                        refine tk (i := 23) (oi := ⟨some 220, _, _, _, _, _⟩) (v := ?_) rfl (by kernel_rfl) (fun _ _ _ h => h) (by assumption) (by rfl) (fun w hSw => ?_) ?_; rotate_left; (focus (first | (go_simp; done) | (go_simp; with_reducible rfl))); simp only [Act.put, List.setIfInBounds_toArray, List.set_cons_zero, List.set_cons_succ]
                        refine tk (i := 24) (oi := ⟨some 221, _, _, _, _, _⟩) (v := ?_) rfl (by kernel_rfl) (fun _ _ _ h => h) (by assumption) (by rfl) (fun w hSw => ?_) ?_; rotate_left; (focus (first | (go_simp; done) | (go_simp; with_reducible rfl))); simp only [Act.put, List.setIfInBounds_toArray, List.set_cons_zero, List.set_cons_succ]
                        refine tk (i := 25) (oi := ⟨some 222, _, _, _, _, _⟩) (v := ?_) rfl (by kernel_rfl) (fun _ _ _ h => h) (by assumption) (by rfl) (fun w hSw => ?_) ?_; rotate_left; (focus (first | (go_simp; done) | (go_simp; with_reducible rfl))); simp only [Act.put, List.setIfInBounds_toArray, List.set_cons_zero, List.set_cons_succ]
                        refine tk (i := 26) (oi := ⟨some 223, _, _, _, _, _⟩) (v := ?_) rfl (by kernel_rfl) (fun _ _ _ h => h) (by assumption) (by rfl) (fun w hSw => ?_) ?_; rotate_left; (focus (first | (go_simp; done) | (go_simp; with_reducible rfl))); simp only [Act.put, List.setIfInBounds_toArray, List.set_cons_zero, List.set_cons_succ]
                        refine tk (i := 27) (oi := ⟨some 224, _, _, _, _, _⟩) (v := ?_) rfl (by kernel_rfl) (fun _ _ _ h => h) (by assumption) (by rfl) (fun w hSw => ?_) ?_; rotate_left; (focus (first | (go_simp; done) | (go_simp; with_reducible rfl))); simp only [Act.put, List.setIfInBounds_toArray, List.set_cons_zero, List.set_cons_succ]
                        refine wpAnyH_done (by kernel_rfl) ?_ _
                        clear hS
                        go_wp2_with fail
                        go_roundg (A'.length + 2 - (h + 1))
                        case measure => have := Hqh.out; omega
                        case rel => exact ⟨h + 1, by omega, rfl, by go_num, ((hkz.transNo hk11).transNo hkK).drew⟩
                · as_aux_lemma =>
                    have hse := fun wx (hx : Keeps No wr wx) => va_sealed b m v' A' G' _ wx (hVz.kept hx)
                    go_wp2_with fail
                    refine wp_region_held_drew (S := fun wx => wx.cell? ⟨b2, 0, none⟩ = some (.slice al A'.length cl)) (by kernel_rfl) (hcz) (fun hS => ?_)
                    refine tk (i := 0) (oi := ⟨some 225, _, _, _, _, _⟩) (v := ?_) rfl (by kernel_rfl) (fun _ _ _ h => h) (by assumption) (by rfl) (fun w hSw => ?_) ?_; rotate_left; (focus (first | (go_simp; done) | (go_simp; with_reducible rfl))); simp only [Act.put, List.setIfInBounds_toArray, List.set_cons_zero, List.set_cons_succ]
                    refine tk (i := 2) (oi := ⟨some 227, _, _, _, _, _⟩) (v := ?_) rfl (by kernel_rfl) (fun _ _ _ h => h) (by assumption) (by rfl) (fun w hSw => ?_) ?_; rotate_left; (focus (first | (go_simp; done) | (go_simp; with_reducible rfl))); simp only [Act.put, List.setIfInBounds_toArray, List.set_cons_zero, List.set_cons_succ]
                    refine tk (i := 3) (oi := ⟨some 228, _, _, _, _, _⟩) (v := ?_) rfl (by kernel_rfl) (fun _ _ _ h => h) (by assumption) (by rfl) (fun w hSw => ?_) ?_; rotate_left; (focus (first | (go_simp; done) | (go_simp; with_reducible rfl))); simp only [Act.put, List.setIfInBounds_toArray, List.set_cons_zero, List.set_cons_succ]
                    refine tk (i := 4) (oi := ⟨some 229, _, _, _, _, _⟩) (v := ?_) rfl (by kernel_rfl) (fun _ _ _ h => h) (by assumption) (by rfl) (fun w hSw => ?_) ?_; rotate_left; (focus (first | (go_simp; done) | (go_simp; with_reducible rfl))); simp only [Act.put, List.setIfInBounds_toArray, List.set_cons_zero, List.set_cons_succ]
                    refine tk (i := 5) (oi := ⟨some 230, _, _, _, _, _⟩) (v := ?_) rfl (by kernel_rfl) (fun _ _ _ h => h) (by assumption) (by rfl) (fun w hSw => ?_) ?_; rotate_left; (focus (first | (go_simp; done) | (go_simp; with_reducible rfl))); simp only [Act.put, List.setIfInBounds_toArray, List.set_cons_zero, List.set_cons_succ]
                    refine tk (i := 6) (oi := ⟨some 231, _, _, _, _, _⟩) (v := ?_) rfl (by kernel_rfl) (fun _ _ _ h => h) (by assumption) (by rfl) (fun w hSw => ?_) ?_; rotate_left; (focus (first | (go_simp; done) | (go_simp; with_reducible rfl))); simp only [Act.put, List.setIfInBounds_toArray, List.set_cons_zero, List.set_cons_succ]
                    refine alone (i := 1) (oi := ⟨some 226, _, _, _, _, _⟩) rfl (by kernel_rfl) (by rfl) (fun K hK => ?_); go_simp
                    refine (hse _ ((Keeps.refl No wr).drew)).mono ?_
                    rintro e w12 ⟨rfl, rfl⟩
                    refine hK.out (fun wx => wx.cell? ⟨b2, 0, none⟩ = some (.slice al A'.length cl)) _ _ (fun _ h => h) (hS) ?_
                    clear hK K hS
                    intro hS
                    refine tk (i := 7) (oi := ⟨some 232, _, _, _, _, _⟩) (v := ?_) rfl (by kernel_rfl) (fun _ _ _ h => h) (by assumption) (by rfl) (fun w hSw => ?_) ?_; rotate_left; (focus (first | (go_simp; done) | (go_simp; with_reducible rfl))); simp only [Act.put, List.setIfInBounds_toArray, List.set_cons_zero, List.set_cons_succ]
                    refine wpAnyH_done (by kernel_rfl) ?_ _
                    clear hS
                    go_wp2_with fail
                    go_roundg (n - (j + 1))
                    case measure => have := Hq.out; omega
                    case rel =>
                      refine ⟨j + 1, v', .slice al A'.length cl, vg', A', G', by omega, by omega, rfl, by go_num, by omega, by omega, (hVz.kept (Keeps.refl No wr).drew).more (fun i _ h => ?_), hR10.kept (hkz.drew), hRO', (hk10.transNo hkz).drew⟩
                      rcases h with h | h | h
                      · exact .inl h
                      · exact .inr (.inl h)
                      · exact h.elim
    · obtain rfl : n = j := by omega
      have hVx := hV
      have hkx := hkr
      go_wp2_with fail
      refine (va_under_big b m v A G _ _ hVx (by omega)).mono ?_
      rintro e wz ⟨rfl, hkz⟩
      go_wp2_with fail
      go_ret
      exact ⟨rfl, (hkx.transNo hkz).alloc _⟩
end Go.Proofs.Ytpceigiofbeihaa
