/- What Go's library answers of texts: Collect, Sort, Sorted, Compact, BinarySearch. -/
import Derived.Test.YthbipcjgpocpaaaGreatSeqs
import Derived.Test.YthbipcjgpocpaaaGreatDictLay
import Derived.Test.YthbipcjgpocpaaaGreatPlainDict
import Derived.Sort.OwnSorted
import Derived.Shelf.Slices.In.SortNone
import Derived.Sort.EveryDepth
namespace Go.Proofs.YthbipcjgpocpaaaGreat
open Go.RowKit Go.Sort
set_option linter.unusedSimpArgs false
set_option linter.unusedVariables false
set_option maxRecDepth 100000

/-- A text as Go's string. -/
def txV (x : Tx) : Value := .string ⟨x.toArray⟩
theorem txV_enc : txV = encStr := rfl
theorem txV_data (s : ByteArray) : txV s.data.toList = .string s := rfl
theorem txs_of (L : List ByteArray) : L.map Value.string = (L.map fun s => s.data.toList).map txV := by
  rw [List.map_map]; rfl

theorem values_any (a : Option Addr) (len cap : Nat) (w : World) :
    Calls Tryz.prog 72 #[.slice a len cap] w fun e w' => e = .returned (.func (.func 85) #[] #[.pointer (some ⟨w.heap.size, 0, none⟩)]) ∧ w' = w.alloc (.cells #[.slice a len cap] 64) :=
  (callsIn_wide (n := 1)).1 (values_in _ 1 trivial rfl a len cap w)
theorem collect_any (Bs : Nat) (a : Option Addr) (len cap : Nat) (L : List ByteArray) (hbytes : len * 16 ≤ 140737488355328) (w : World) (hBs : Bs < w.heap.size) (hcB : w.cell? ⟨Bs, 0, none⟩ = some (.slice a len cap)) (hs : Sl w a len cap (L.map Value.string)) :
    Calls Tryz.prog 83 #[.func (.func 85) #[] #[.pointer (some ⟨Bs, 0, none⟩)]] w fun e w' => ∃ v, e = .returned v ∧ w'.ownsRow w.heap.size 9 1 v L.length (L.map Value.string) ∧ Keeps No w w' := by
  have hap := (callsIn_wide (n := 3)).1 (appendSeq_in Fence.wide 3 trivial trivial rfl (by omega) Bs a len cap L hbytes w hBs hcB hs)
  go_enter Tryz.func83, Tryz.ntmps83
  go_wp2_with fail
  refine hap.mono ?_
  rintro e w1 ⟨v, rfl, hown, hb⟩
  go_wp2_with fail
  go_ret
  exact ⟨v, rfl, hown, Keeps.ofBelow hb⟩

theorem sort_str (blk cap : Nat) (ss : List Tx) (w : World) (hH : Holds encStr w blk 0 ss.toArray) (hblk : blk < w.heap.size) (hsz : ss.length < 4611686018427387904) :
    Calls Tryz.prog 84 #[.slice (some ⟨blk, 0, none⟩) ss.length cap] w fun e w' =>
      e = .returned (.tuple #[]) ∧ ∃ n os, w' = grow (putRow encStr (Sort.ahead w n) blk 0 (ss.mergeSort fun x y => decide (x ≤ y)).toArray) os := Any.slices_Sort_string lays190 blk 0 cap ss w hH hblk hsz
theorem sort_nil (p : Option Addr) (cap : Nat) (w : World) : Calls Tryz.prog 84 #[.slice p 0 cap] w fun e w' => e = .returned (.tuple #[]) ∧ w' = w :=
  calls_of_every_depth fun D => AnyS.slices_Sort_string_none_in lays190 D p cap w
theorem compact_str (blk cap : Nat) (zs : List Tx) (w : World) (hH : Holds encStr w blk 0 zs.toArray) (hsz : zs.length ≤ 9223372036854775807) (hcap : zs.length ≤ cap) :
    Calls Tryz.prog 70 #[.slice (some ⟨blk, 0, none⟩) zs.length cap] w fun e w' => e = .returned (.slice (some ⟨blk, 0, none⟩) (Lib.compact zs).length cap) ∧ ∃ q, w' = putRow encStr (Sort.ahead w q) blk 0 (Lib.compact zs ++ List.replicate (zs.length - (Lib.compact zs).length) []).toArray :=
  Any.slices_Compact_string lays194 blk 0 cap zs w hH hsz hcap
theorem compact_nil (a : Option Addr) (cap : Nat) (w : World) : Calls Tryz.prog 70 #[.slice a 0 cap] w fun e w' => e = .returned (.slice a 0 cap) ∧ w' = w := Any.slices_Compact_string_empty lays194 a cap w

set_option maxHeartbeats 1000000 in
/-- 'slices.Sorted(slices.Values(l))', an owned row. -/
theorem sorted_any (Bs : Nat) (a : Option Addr) (len cap : Nat) (L : List Tx) (hbytes : len * 16 ≤ 140737488355328) (w : World) (hBs : Bs < w.heap.size) (hcB : w.cell? ⟨Bs, 0, none⟩ = some (.slice a len cap)) (hs : Sl w a len cap (L.map txV)) :
    Calls Tryz.prog 71 #[.func (.func 85) #[] #[.pointer (some ⟨Bs, 0, none⟩)]] w fun e w' => ∃ v, e = .returned v ∧ w'.ownsRow w.heap.size 9 1 v L.length ((L.mergeSort fun x y => decide (x ≤ y)).map txV) ∧ Keeps No w w' := by
  have hlen : L.length = len := by simpa using hs.len
  have hcol := collect_any Bs a len cap (L.map fun x => ⟨x.toArray⟩) hbytes w hBs hcB (by rw [List.map_map]; exact hs)
  rw [List.length_map, List.map_map] at hcol
  change Calls _ _ _ _ fun e w' => ∃ v, e = .returned v ∧ w'.ownsRow w.heap.size 9 1 v L.length (L.map txV) ∧ Keeps No w w' at hcol
  have Hlen := Lib.hid hlen
  clear hlen
  go_enter Tryz.func71, Tryz.ntmps71
  go_wp2_with fail
  refine hcol.mono ?_
  rintro e w1 ⟨v, rfl, hown, hk1⟩
  by_cases hz : L = []
  · subst hz
    rw [show ([] : List Tx).length = 0 from rfl] at hown
    obtain ⟨a1, c1, rfl, hs1, _⟩ := Sl.ofOwn hown
    go_wp2_with fail
    refine (sort_nil a1 c1 w1).mono ?_
    rintro e w2 ⟨rfl, rfl⟩
    go_wp2_with fail
    go_ret
    exact ⟨_, rfl, by simpa using hown, hk1⟩
  have hpos : 0 < L.length := List.length_pos_iff.2 hz
  rcases hown.2 with ⟨_, h0⟩ | ⟨g, cp, cur, rfl, hbase, hgb, r1, r2, r3, r4⟩
  · omega
  rw [txV_enc] at r4
  have hH : Holds encStr w1 g 0 L.toArray := holds_of_block hgb (by simpa using r4)
  have hgl : g < w1.heap.size := (Array.getElem?_eq_some_iff.1 hgb).1
  have hcall := sort_str g cp L w1 hH hgl (by rw [Hlen.out]; omega)
  go_wp2_with fail
  refine hcall.mono ?_
  rintro e w2 ⟨rfl, n, os, hw2⟩
  go_wp2_with fail
  go_ret
  subst hw2
  have hos := ownsRow_sorted (n := n) (os := os) (ss := L) (ts := L.mergeSort fun x y => decide (x ≤ y)) (by simp) hbase hgb r1 r2 r3
  have hgr := grownBy_sorted (w := w1) (g := g) (n := n) (os := os) (L.mergeSort fun x y => decide (x ≤ y)).toArray
  rw [← txV_enc] at hos
  exact ⟨_, rfl, hos, hk1.grown hgr (fun k hk hlt => by cases hk; omega)⟩

/-- slices.Compact of an owned row that is sorted: the texts, rising. -/
theorem compact_own (base : Nat) (v : Value) (L : List Tx) (w : World) (hbytes : L.length ≤ 1000000) (hown : w.ownsRow base 9 1 v L.length ((L.mergeSort fun x y => decide (x ≤ y)).map txV)) :
    Calls Tryz.prog 70 #[v] w fun e w' => ∃ a c, e = .returned (.slice a (wordsL L).length c) ∧ Sl w' a (wordsL L).length c ((wordsL L).map txV) ∧ (∀ x, a = some x → ∃ g, x = ⟨g, 0, none⟩ ∧ base ≤ g) ∧ Keeps (fun k => base ≤ k) w w' := by
  by_cases hz : L = []
  · subst hz
    obtain ⟨a1, c1, rfl, hs1, ha1⟩ := Sl.ofOwn hown
    rw [show ([] : List Tx).length = 0 from rfl] at hs1 ⊢
    refine (compact_nil a1 c1 w).mono ?_
    rintro e w2 ⟨rfl, rfl⟩
    exact ⟨a1, c1, rfl, by simpa [wordsL] using hs1, fun x hx => by obtain ⟨g, h1, h, _⟩ := ha1 x hx; exact ⟨g, h1, h⟩, Keeps.refl _ _⟩
  have hpos : 0 < L.length := List.length_pos_iff.2 hz
  rcases hown.2 with ⟨_, h0⟩ | ⟨g, cp, cur, rfl, hbase, hgb, r1, r2, r3, r4⟩
  · omega
  obtain ⟨S, hS⟩ : ∃ S, S = L.mergeSort fun x y => decide (x ≤ y) := ⟨_, rfl⟩
  have hSl : S.length = L.length := by rw [hS]; simp
  rw [← hS] at r4
  have hC : Lib.compact S = wordsL L := by rw [hS]; exact compact_sort L
  have hwl := wordsL_len L
  rw [txV_enc] at r4
  have hH : Holds encStr w g 0 S.toArray := holds_of_block hgb (by rw [hSl]; simpa using r4)
  have hcall := compact_str g cp S w hH (by omega) (by omega)
  rw [hSl, hC] at hcall
  refine hcall.mono ?_
  rintro e w2 ⟨rfl, q, rfl⟩
  have hgr := grownBy_sorted (w := w) (g := g) (n := q) (os := #[]) (wordsL L ++ List.replicate (L.length - (wordsL L).length) []).toArray
  have how := ownsRow_sorted (base := base) (n := q) (os := #[]) (ss := L) (ts := wordsL L ++ List.replicate (L.length - (wordsL L).length) []) (by simp; omega) hbase hgb r1 r2 r3
  rw [grow_empty] at hgr how
  obtain ⟨a2, c2, he, hs2, _⟩ := Sl.ofOwn how
  obtain ⟨rfl, rfl⟩ : some ⟨g, 0, none⟩ = a2 ∧ cp = c2 := by
    simp only [Value.slice.injEq, true_and] at he
    exact ⟨he.1, he.2⟩
  have hs3 := hs2.takev (k := (wordsL L).length) hwl
  rw [← List.map_take, List.take_left] at hs3
  exact ⟨_, _, rfl, hs3, fun x hx => by cases hx; exact ⟨g, rfl, hbase⟩, (Keeps.refl _ w).grown hgr (fun k hk _ => by cases hk; exact hbase)⟩

/-- slices.BinarySearch of a text among rising ones: its place. -/
theorem search_any (g n c : Nat) (W : List Tx) (x : Tx) (w : World) (hs : Sl w (some ⟨g, 0, none⟩) n c (W.map txV)) (hr : Ris W) (hx : x ∈ W) (hn : n ≤ 1000000) :
    Calls Tryz.prog 73 #[.slice (some ⟨g, 0, none⟩) n c, txV x] w fun e w' => e = .returned (.tuple #[.int .i64 ((W.idxOf x : Nat) : Int), .bool true]) ∧ Keeps No w w' := by
  have hlen : W.length = n := by simpa using hs.len
  obtain ⟨K, hK⟩ : ∃ K, W.idxOf x = K := ⟨_, rfl⟩
  have hi : K < W.length := by rw [← hK]; exact List.idxOf_lt_length_of_mem hx
  have hg : W[K] = x := by subst hK; exact List.getElem_idxOf hi
  rw [hK]
  have hrg := List.pairwise_iff_getElem.1 hr
  obtain ⟨Sx, hSx⟩ : ∃ Sx : Nat → ByteArray, Sx = fun j => ⟨(W.getD j x).toArray⟩ := ⟨_, rfl⟩
  have hc : ∀ j, j < n → w.cell? ⟨g, 0 + j, none⟩ = some (.string (Sx j)) := fun j hj => by
    have := hs.cell j hj
    simp only [Option.getD_some, Addr.add_lit] at this
    rw [this, hSx]
    have hjl : j < W.length := by omega
    simp [txV, hjl]
  have hb := Any2.slices_BinarySearch_string lays226 g 0 n c Sx ⟨x.toArray⟩ w (by omega) hc
  have hlt : ∀ t, Op.bytesLess (Sx t).toList (⟨x.toArray⟩ : ByteArray).toList = decide (t < K) := fun t => by
    have h1 : (Sx t).toList = W.getD t x := by rw [hSx]; simp [ByteArray.toList_eq]
    have h2 : (⟨x.toArray⟩ : ByteArray).toList = x := by rw [ByteArray.toList_eq]
    rw [h1, h2, bytesLess_eq]
    refine decide_eq_decide.2 ?_
    by_cases ht : t < W.length
    · have e1 : W.getD t x = W[t] := by simp [ht]
      rw [e1]
      rcases Nat.lt_trichotomy t K with h | h | h
      · have := hrg t K ht hi h
        rw [hg] at this
        simp [this, h]
      · subst h
        rw [hg]
        simp [tx_irr x]
      · have := hrg K t hi ht h
        rw [hg] at this
        have h2 : ¬ W[t] < x := fun h' => tx_irr _ (List.lt_trans this h')
        simp [h2, show ¬ t < K by omega]
    · have e1 : W.getD t x = x := by simp [ht]
      rw [e1]
      simp [tx_irr x, show ¬ t < K by omega]
  have hgo : Lib.bsGo (fun t => Op.bytesLess (Sx t).toList (⟨x.toArray⟩ : ByteArray).toList) n 0 n = K :=
    Lib.bsGo_spec _ K (fun t h => by simp only [hlt]; simp [h]) (fun t h => by simp only [hlt]; simp; omega) n 0 n (by omega) (by omega) (by omega)
  rw [hgo] at hb
  refine hb.mono ?_
  rintro e w1 ⟨rfl, q, rfl⟩
  refine ⟨?_, (Keeps.refl No w).drewN q⟩
  have hSK : Sx K = ⟨x.toArray⟩ := by
    rw [hSx]
    simp only
    rw [show W.getD K x = x from by simp [hi, hg]]
  rw [hSK]
  simp [show K < n by omega]
end Go.Proofs.YthbipcjgpocpaaaGreat
