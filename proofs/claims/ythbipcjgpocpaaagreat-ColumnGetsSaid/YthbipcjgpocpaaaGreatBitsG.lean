/- The walk of bits.Get. -/
import Derived.Test.YthbipcjgpocpaaaGreatBits
import Derived.Test.YthbipcjgpocpaaaGreatRunsG
namespace Go.Proofs.YthbipcjgpocpaaaGreat
open Go.RowKit
set_option linter.unusedSimpArgs false
set_option linter.unusedVariables false

def ByteQ (st : Option (List UInt8)) (X : UInt8) (B : Bool) (st' : Option (List UInt8)) : Prop :=
  (B = true → ∃ r, st = some (X :: r) ∧ st' = some r) ∧ (B = false → X = 0 ∧ (st = none ∨ st = some []))
theorem byte_q (b sb : Nat) (st : Option (List UInt8)) (w : World) (h : Rds w b sb st) :
    Calls Tryz.prog 11 #[.pointer (some ⟨b, 0, none⟩)] w fun e w' => ∃ X B st', e = .returned (.tuple #[.int .u8 ((X : UInt8).toNat : Int), .bool B]) ∧ Rds w' b sb st' ∧ Keeps (· = b) w w' ∧ ByteQ st X B st' := by
  cases st with
  | none =>
    obtain ⟨xs, h⟩ := h
    refine (byte_none b sb xs true w h (.inl rfl)).mono ?_
    rintro e w1 ⟨rfl, h1, hk⟩
    exact ⟨0, false, none, rfl, ⟨xs, h1⟩, hk, fun h => by simp at h, fun _ => ⟨rfl, .inl rfl⟩⟩
  | some xs =>
    cases xs with
    | nil =>
      refine (byte_none b sb [] false w h (.inr rfl)).mono ?_
      rintro e w1 ⟨rfl, h1, hk⟩
      exact ⟨0, false, none, rfl, ⟨[], h1⟩, hk, fun h => by simp at h, fun _ => ⟨rfl, .inr rfl⟩⟩
    | cons x xs =>
      refine (byte_some b sb x xs w h).mono ?_
      rintro e w1 ⟨rfl, h1, hk⟩
      exact ⟨x, true, some xs, rfl, h1, hk, fun _ => ⟨xs, rfl, rfl⟩, fun h => by simp at h⟩

theorem head_no {b : List UInt8} {N : Nat} (hN : N ≠ 0) {V : Int} {B1 B2 : Bool} {X : UInt8} {st1 st2 : Option (List UInt8)} (h1 : NumQ (some b) V B1 st1) (h2 : ByteQ st1 X B2 st2) (hb : B2 = false ∨ 64 < X.toNat) : getN b N (getB b N) = none := by
  unfold getN
  rw [if_neg hN]
  cases B1 with
  | false => have hn : natGo 0 0 b = none := (h1.2 rfl).1; rw [hn]
  | true =>
    obtain ⟨u, r, hr, rfl, rfl, _⟩ := h1.1 rfl
    have hn : natGo 0 0 b = some (u, r) := hr
    rw [hn]
    simp only
    cases B2 with
    | false =>
      obtain ⟨_, h | h⟩ := h2.2 rfl
      · cases h
      · injection h with h; subst h; rfl
    | true =>
      obtain ⟨r', h, _⟩ := h2.1 rfl
      injection h with h; subst h
      unfold getB
      simp only
      rw [if_pos (hb.resolve_left (by simp))]
def finB (b : List UInt8) (V : Int) (W N : Nat) : Option (List Bool) → Option (List Int)
  | none => none
  | some all => chk b (outOf V W N all)
theorem head_ok {b : List UInt8} {N : Nat} (hN : N ≠ 0) {V : Int} {B1 : Bool} {X : UInt8} {st1 st2 : Option (List UInt8)} (h1 : NumQ (some b) V B1 st1) (h2 : ByteQ st1 X true st2) (hb : ¬ 64 < X.toNat) :
    ∃ rest, b = nat7 (fold V) ++ X :: rest ∧ getN b N (getB b N) = finB b V X.toNat N (getBits rest ((N * X.toNat : Nat) : Int)) := by
  obtain ⟨r', h, _⟩ := h2.1 rfl
  subst h
  cases B1 with
  | false => obtain ⟨_, h, _⟩ := h1.2 rfl; cases h
  | true =>
    obtain ⟨u, r, hr, rfl, hs, _⟩ := h1.1 rfl
    injection hs with hs; subst hs
    have hn : natGo 0 0 b = some (u, X :: r') := hr
    refine ⟨r', by rw [fold_unfold]; exact natGo_nat hn, ?_⟩
    unfold getN
    rw [if_neg hN, hn]
    simp only
    unfold getB
    simp only
    rw [if_neg hb]
    cases getBits r' ((N * X.toNat : Nat) : Int) <;> rfl
theorem num_in {st : Option (List UInt8)} {V : Int} {B : Bool} {st' : Option (List UInt8)} (h : NumQ st V B st') : -9223372036854775808 ≤ V ∧ V ≤ 9223372036854775807 := by
  cases B with
  | false => obtain ⟨_, _, rfl⟩ := h.2 rfl; omega
  | true => obtain ⟨u, r, _, rfl, _, hu⟩ := h.1 rfl; unfold unfoldN; split <;> omega

theorem or_pow (u k : Nat) (hu : u < 2 ^ k) : u ||| 2 ^ k = u + 2 ^ k := by
  have := Nat.two_pow_add_eq_or_of_lt hu 1
  rw [Nat.mul_one] at this
  rw [Nat.or_comm, ← this, Nat.add_comm]
theorem bget_val (all : List Bool) (J k : Nat) (h : J + k < all.length) : val ((all.drop J).take (k + 1)) = val ((all.drop J).take k) + if all.getD (J + k) false then 2 ^ k else 0 := by
  have hl : k < (all.drop J).length := by simp; omega
  rw [List.take_succ_eq_append_getElem hl, val_snoc]
  have e1 : ((all.drop J).take k).length = k := by simp; omega
  rw [e1]
  simp [List.getD_eq_getElem?_getD, List.getElem?_eq_getElem h]
theorem take_val_lt (l : List Bool) (k : Nat) : val (l.take k) < 2 ^ k := Nat.lt_of_lt_of_le (val_lt _) (Nat.pow_le_pow_right (by decide) (by simp; omega))

theorem take_set (O : List Int) (j n : Nat) (z : Int) (hO : O.length = n) (h : j < n) : (O.take j ++ List.replicate (n - j) z).set j (O.getD j 0) = O.take (j + 1) ++ List.replicate (n - (j + 1)) z := by
  have hl : (O.take j).length = j := by simp; omega
  rw [List.set_append_right _ _ (by omega), hl, Nat.sub_self, show n - j = (n - (j + 1)) + 1 from by omega, List.replicate_succ, List.set_cons_zero, List.take_succ_eq_append_getElem (by omega)]
  have e : O.getD j 0 = O[j] := by simp [show j < O.length by omega]
  rw [e, List.append_assoc]; rfl
theorem shl_or (u k : Nat) (h : u < 2 ^ k) (hk : k < 64) : bits BinOp.or IntKind.u64 (u : Int) (IntKind.u64.wrap (2 ^ k)) = ((u + 2 ^ k : Nat) : Int) := by
  have h64 : 2 ^ k < 18446744073709551616 := Nat.pow_lt_pow_right (a := 2) (by decide) hk
  have e : IntKind.u64.wrap (2 ^ k) = ((2 ^ k : Nat) : Int) := by
    have e0 : ((2 : Int) ^ k) = ((2 ^ k : Nat) : Int) := by push_cast; rfl
    rw [e0, IntKind.wrap_u64]; omega
  rw [e, bits_or_u64 _ _ (by omega) h64, or_pow u k h]
theorem st_wrap (m : Int) (u : Nat) : IntKind.i64.wrap (IntKind.u64.wrap (IntKind.u64.wrap m + (u : Int))) = wrap64 (m + (u : Int)) := by
  rw [IntKind.wrap_i64, IntKind.wrap_u64, IntKind.wrap_u64]; unfold wrap64; omega

theorem RGetPost.no' {r : Option (List Int)} {w w' : World} (h : r = none) (hk : Keeps No w w') : RGetPost r w (.returned (.tuple #[.slice none 0 0, .bool false])) w' := by
  rw [h]; exact ⟨rfl, hk⟩
theorem RGetPost.ok' {r : Option (List Int)} {l : List Int} {v : Value} {w w' : World} (h : r = some l) (ho : w'.ownsRow w.heap.size 3 1 v l.length (l.map intV)) (hk : Keeps No w w') : RGetPost r w (.returned (.tuple #[v, .bool true])) w' := by
  rw [h]; exact ⟨v, rfl, ho, hk⟩

set_option maxRecDepth 100000 in
set_option maxHeartbeats 4000000 in
theorem bget_any (a : Option Addr) (m c : Nat) (b : List UInt8) (n : Int) (w : World) (hs : Sl w a m c (b.map byteV)) (hm : m ≤ 100000) (hn : (Lit.int .i64 n).wf = true) :
    Calls Tryz.prog 31 #[.slice a m c, .int .i64 n] w (RGetPost (bitsGet b n) w) := by
  have hw := wf_i64_iff hn
  have hlen : b.length = m := by simpa using hs.len
  have Hlen := Lib.hid hlen
  clear hlen
  go_enter Tryz.func31, Tryz.ntmps31
  by_cases h0 : n < 0
  · go_wp2_with fail
    go_ret2
    exact RGetPost.no' (if_pos (.inl h0)) (Keeps.refl _ _)
  by_cases h1 : 256 < n
  · go_wp2_with fail
    go_ret2
    exact RGetPost.no' (if_pos (.inr h1)) (Keeps.refl _ _)
  obtain ⟨N, rfl⟩ : ∃ N : Nat, n = (N : Int) := ⟨n.toNat, by omega⟩
  have hrg : bitsGet b (N : Int) = getN b N (getB b N) := by
    unfold bitsGet
    rw [if_neg (by omega)]
    rfl
  have Hrg := Lib.hid hrg
  have hN : N ≤ 256 := by omega
  clear hn hw h0 hrg h1
  by_cases hN0 : N = 0
  · subst hN0
    by_cases hm0 : m = 0
    · subst hm0
      have hb0 : b = [] := List.eq_nil_of_length_eq_zero Hlen.out
      have Hb0 := Lib.hid hb0
      clear hb0
      go_wp2_with fail
      go_ret2
      exact RGetPost.ok' (l := []) (by rw [Hrg.out, Hb0.out]; rfl) (World.ownsRow_nil _ _ _ _) (Keeps.refl _ _)
    · have hm1 : ((m : Int) == 0) = false := by rw [beq_eq_false_iff_ne]; omega
      go_wp2_with fail
      go_ret2
      refine RGetPost.no' ?_ (Keeps.refl _ _)
      rw [Hrg.out]
      unfold getN
      rw [if_pos rfl, if_neg]
      intro h
      apply hm0
      rw [← Hlen.out, h]; rfl
  have hNb : ((N : Int) == 0) = false := by rw [beq_eq_false_iff_ne]; omega
  go_wp2_with fail
  refine (open_any a m c b _ hs (by omega)).mono ?_
  rintro e w1 ⟨rb, sb, rfl, hR1, hb1, hsb1, hb1', hsb1', hk1⟩
  go_wp2_with fail
  refine (rnumber_q rb sb (some b) w1 hR1).mono ?_
  rintro e w2 ⟨V, B1, st1, rfl, hR2, hk2, hQ1⟩
  have hV := num_in hQ1
  have HQ1 := Lib.hid hQ1
  clear hQ1
  go_wp2_with fail
  refine (byte_q rb sb st1 w2 hR2).mono ?_
  rintro e w3 ⟨X, B2, st2, rfl, hR3, hk3, hQ2⟩
  have HQ2 := Lib.hid hQ2
  clear hQ2
  have hk13 : Keeps No w w3 := (hk1.trans (hk2.same hk3) (fun i hi h => by omega))
  clear hR1 hR2 hk2 hR3
  go_wp2_with fail
  refine (number_any none 0 0 [] V _ (Sl.none _) (by omega) (wf_int hV)).mono ?_
  rintro e w4 ⟨v4, rfl, hown4, hk4⟩
  rw [List.nil_append, Nat.zero_add] at hown4
  have hfold := nat7_len64 (fold V) (fold_lt hV)
  generalize hF : nat7 (fold V) = F at hfold hown4
  have HF := Lib.hid hF
  clear hF
  obtain ⟨a4, c4, rfl, hs4, hf4⟩ := Sl.ofOwn hown4
  have hkw4 : Keeps No w w4 := hk13.transNo hk4
  clear hown4 hf4 hk13 hk4 hk3 hk1
  cases B2
  · go_wp2_with fail
    go_ret2
    exact RGetPost.no' (by rw [Hrg.out]; exact head_no hN0 HQ1.out HQ2.out (.inl rfl)) hkw4
  by_cases hX : 64 < X.toNat
  · have hX' : (64 : Int) < (X.toNat : Int) := by omega
    go_wp2_with fail
    go_ret2
    exact RGetPost.no' (by rw [Hrg.out]; exact head_no hN0 HQ1.out HQ2.out (.inr hX)) hkw4
  obtain ⟨rest, hbr, hget⟩ := head_ok hN0 HQ1.out HQ2.out hX
  rw [HF.out] at hbr
  have hX' : ¬ (64 : Int) < (X.toNat : Int) := by omega
  have hml : m = F.length + (rest.length + 1) := by rw [← Hlen.out, hbr]; simp
  have hdr : b.drop (F.length + 1) = rest := by
    rw [hbr, show F ++ X :: rest = (F ++ [X]) ++ rest by simp]
    rw [List.drop_append_of_le_length (by simp), List.drop_eq_nil_of_le (by simp), List.nil_append]
  obtain ⟨a5, hf1, hf2, hs5, -⟩ := hs.from_ (P := Tryz.prog) Tryz.underlying22 (by kernel_rfl) (k := F.length + 1) (by omega) .i64 ((F.length : Int) + 1) (by omega)
  rw [← List.map_drop, hdr] at hs5
  have hbd : m - (F.length + 1) ≤ 100000 := by omega
  have Hbr := Lib.hid hbr
  have Hget := Lib.hid hget
  have hml' : (F.length : Int) + 1 ≤ (m : Int) := by omega
  have Hml := Lib.hid hml
  clear hbr hget hml hdr
  generalize hXW : X.toNat = W at hX hX' hf1 hf2 hs5
  have hget' : getN b N (getB b N) = finB b V W N (getBits rest ((N * W : Nat) : Int)) := by rw [← hXW]; exact Hget.out
  have Hget' := Lib.hid hget'
  clear hget'
  have hNW : N * W ≤ 256 * 64 := Nat.mul_le_mul hN (by omega)
  have hmul : (N : Int) * (W : Int) = ((N * W : Nat) : Int) := by push_cast; rfl
  have hjm : ∀ j : Nat, (j : Int) * (W : Int) = ((j * W : Nat) : Int) := fun j => by push_cast; rfl
  have Hjm := Lib.hid hjm
  have hvl : ∀ i, i < N → i * W + W ≤ N * W := fun i hi => by
    have := Nat.mul_le_mul_right W (show i + 1 ≤ N by omega)
    rw [Nat.add_mul] at this; omega
  have Hvl := Lib.hid hvl
  clear hjm hvl hXW Hget HQ1 HQ2
  generalize hNWg : N * W = NW at hNW hmul
  have HNW := Lib.hid hNWg
  clear hNWg
  go_wp2_with fail
  refine (get_any a5 (m - (F.length + 1)) (c - (F.length + 1)) rest (NW : Int) _ (hs5.kept hkw4) (by omega) (wf_int (by omega))).mono ?_
  intro e w5 hG
  cases hgb : getBits rest (NW : Int) with
  | none =>
    rw [hgb] at hG
    obtain ⟨rfl, hk5⟩ := hG
    go_wp2_with fail
    go_ret2
    refine RGetPost.no' ?_ (hkw4.transNo hk5)
    rw [Hrg.out, Hget'.out, HNW.out, hgb]; rfl
  | some A =>
    rw [hgb] at hG
    obtain ⟨vA, rfl, hownA, hk5⟩ := hG
    have hfin : bitsGet b (N : Int) = chk b (outOf V W N A) := by rw [Hrg.out, Hget'.out, HNW.out, hgb]; rfl
    have Hfin := Lib.hid hfin
    have hAl : A.length = NW := by
      unfold getBits at hgb
      split at hgb
      · cases hgb
      split at hgb
      · cases hgb
      injection hgb with hgb
      rw [← hgb, Int.toNat_natCast]; simp [getTo]
    have HAl := Lib.hid hAl
    obtain ⟨aA, cA, rfl, hsA, hfA⟩ := Sl.ofOwn hownA
    rw [hAl] at hsA hownA ⊢
    have hkw5 := hkw4.transNo hk5
    have hz5 := hkw5.size
    obtain ⟨O, hO⟩ : ∃ O, O = outOf V W N A := ⟨_, rfl⟩
    have hOl : O.length = N := by rw [hO]; exact outOf_length _ _ _ _
    have hOi : Ints O := by rw [hO]; exact outOf_ints _ _ _ _
    have hOg : ∀ i, i < N → O.getD i 0 = wrap64 (V + (val ((A.drop (i * W)).take W) : Int)) := fun i hi => by
      rw [hO]; simp [outOf, valAt, hi]
    rw [← hO] at hfin
    have HOl := Lib.hid hOl
    have HOi := Lib.hid hOi
    have HOg := Lib.hid hOg
    have Hfin := Lib.hid hfin
    clear hgb hfin hAl hO hOl hOi hOg hk5
    generalize hS : w5.heap.size = S
    have HS := Lib.hid hS
    have hsS : 0 < m → (a.getD default).block < S := fun h => by rw [← hS]; have := hs.lt h; omega
    have hsAS : 0 < NW → (aA.getD default).block < S := fun h => by rw [← hS]; exact hsA.lt h
    clear hS
    obtain ⟨i0, hi, hz0, hz1, hz2⟩ := info_parts int_info
    go_wp2_with (at_make; refine wpList_make_full _ rfl _ _ 63 rfl S 3 i0 (.int .i64 0) 1 Tryz.underlying63 hi hz0 hz1 _ _ _ _ N rfl rfl ?hL ?hC ?b2 ?b3 ?b4 ?_)
    case hL => first | rfl | omega
    case hC => first | rfl | omega
    case b2 => first | omega | (rw [hz2]; omega)
    case b3 => unfold maxLen; omega
    case b4 => have := HS.out; omega
    intro w6 hown6 hg6
    rw [HS.out] at hown6 ⊢
    rw [toList_madeCells_one] at hown6
    have hk56 : Keeps No w5 w6 := (Keeps.refl No w5).grown hg6 (fun _ h => by cases h)
    go_wp2_with fail
    go_loopg [67] N (fun q i wr => ∃ j : Nat, j ≤ N ∧ q = N - j ∧ i = .int .i64 j ∧ wr.ownsRow S 3 1 (.slice (some ⟨S, 0, none⟩) N N) N ((O.take j ++ List.replicate (N - j) 0).map intV) ∧ Keeps No w5 wr)
    case atStart => exact ⟨0, Nat.zero_le _, rfl, rfl, by simpa [intV] using hown6, hk56⟩
    case round =>
      obtain ⟨j, hj, hq, rfl, hown, hkr⟩ := hrel
      have Hq := Lib.hid hq
      clear hq hown6
      by_cases hlt : j < N
      · have hjv := Hvl.out j hlt
        rw [HNW.out] at hjv
        have hmulj := Hjm.out j
        have hOj := HOg.out j hlt
        have hsetj := take_set O j N 0 HOl.out hlt
        generalize hJ : j * W = J at hjv hmulj hOj
        have hjl : j < ((O.take j ++ List.replicate (N - j) 0).map intV).length := by simp; have := HOl.out; omega
        have hcell := hown.cellAt j (by omega)
        rw [List.getElem?_eq_getElem hjl] at hcell
        have hfr := hown.frozenAt j
        have hsAr := hsA.kept hkr
        have hwr := fun u : Nat => st_wrap V u
        have Hset := Lib.hid hsetj
        have HOj := Lib.hid hOj
        clear hsetj hOj hJ
        go_wp2_with fail
        go_loopg [15, 72] W (fun q u i wx => ∃ k : Nat, k ≤ W ∧ q = W - k ∧ i = .int .i64 k ∧ u = .int .u64 ((val ((A.drop J).take k) : Nat) : Int) ∧ wx = wr)
        case atStart => exact ⟨0, Nat.zero_le _, rfl, rfl, by rw [List.take_zero]; rfl, rfl⟩
        case round =>
          obtain ⟨k, hk, hq, rfl, rfl, rfl⟩ := hrel
          have Hqk := Lib.hid hq
          clear hq
          by_cases hkl : k < W
          · have hJk : J + k < NW := by omega
            have hixA := hsAr.ixz (P := Tryz.prog) Tryz.underlying43 (by kernel_rfl) ((J : Int) + (k : Int)) (i := J + k) (by omega) hJk .i64
            have hcA := hsAr.at_ hJk
            have hbA : (A.map Value.bool).getD (J + k) undef = .bool (A.getD (J + k) false) := by have := HAl.out; simp [show J + k < A.length by omega]
            rw [hbA] at hcA
            have hval := bget_val A J k (by have := HAl.out; omega)
            have hUl := take_val_lt (A.drop J) k
            generalize val ((A.drop J).take k) = U at hval hUl
            generalize A.getD (J + k) false = t at hval hcA
            have Hval := Lib.hid hval
            have HUl := Lib.hid hUl
            clear hbA hval hUl
            cases t
            · go_wp2_with fail
              go_roundg (W - (k + 1))
              case rel => exact ⟨k + 1, by omega, rfl, by go_num, by rw [Hval.out]; rfl, rfl⟩
              case measure => have := Hqk.out; omega
            · go_wp2_with fail
              go_roundg (W - (k + 1))
              case rel => exact ⟨k + 1, by omega, rfl, by go_num, by rw [shl_or U k HUl.out (by omega), Hval.out]; rfl, rfl⟩
              case measure => have := Hqk.out; omega
          · obtain rfl : W = k := by omega
            generalize val ((A.drop J).take W) = U at HOj
            go_wp2_with fail
            go_roundg (N - (j + 1))
            case rel =>
              refine ⟨j + 1, by omega, rfl, by go_num, ?_, hkr.setCell (fun h => by have := HS.out; exact absurd h (by simp; omega)) _⟩
              rw [← Hset.out, List.map_set, HOj.out]
              exact (hown.stored j _).1
            case measure => have := Hq.out; omega
      · obtain rfl : N = j := by omega
        rw [Nat.sub_self, List.replicate_zero, List.append_nil, List.take_of_length_le (by have := HOl.out; omega)] at hown
        obtain ⟨_, _, hh, hsO, -⟩ := Sl.ofOwn hown
        cases hh
        have hkwr := hkw5.transNo hkr
        go_wp2_with fail
        refine (bput_any _ N N O _ hsO HOi.out (by omega)).mono ?_
        rintro e w7 ⟨a7, m7, c7, rfl, hs7, hm7, -, hk7⟩
        have hk17 := hkwr.transNo hk7
        go_wp2_with fail
        refine (beq_any a7 m7 c7 (bitsPut O) a m c b _ hs7 (hs.kept hk17) (by omega) (by omega)).mono ?_
        rintro e w8 ⟨rfl, hk8⟩
        by_cases hE : bitsPut O = b
        · rw [decide_eq_true hE]
          have HE := Lib.hid hE
          clear hE
          go_wp2_with fail
          go_ret2
          refine RGetPost.ok' (l := O) (by rw [Hfin.out]; unfold chk; rw [if_pos HE.out]) ?_ (hk17.transNo hk8)
          rw [HOl.out]
          exact own_le ((hk7.transNo hk8).own hown (fun _ _ => not_No _)) (by have := HS.out; omega)
        · rw [decide_eq_false hE]
          have HE := Lib.hid hE
          clear hE
          go_wp2_with fail
          go_ret2
          exact RGetPost.no' (by rw [Hfin.out]; unfold chk; rw [if_neg HE.out]) (hk17.transNo hk8)
end Go.Proofs.YthbipcjgpocpaaaGreat
