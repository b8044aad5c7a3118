/- What roots answer, in plain Lean. -/
import Derived.Test.YthimnkmoeonheaaDoorLawSevenT
namespace Go.Proofs.YthimnkmoeonheaaDoor
open Go.RowKit
set_option linter.unusedSimpArgs false
set_option linter.unusedVariables false
set_option maxRecDepth 100000

theorem wf_i64_of (n : Int) (h0 : -9223372036854775808 ≤ n) (h1 : n ≤ 9223372036854775807) : (Lit.int .i64 n).wf = true := by
  show (decide (IntKind.i64.min ≤ n) && decide (n ≤ IntKind.i64.max)) = true
  have e1 : IntKind.i64.min = -9223372036854775808 := by decide
  have e2 : IntKind.i64.max = 9223372036854775807 := by decide
  rw [e1, e2]
  simp
  omega
def z64 (n : Nat) : {n : Int // (Lit.int .i64 n).wf = true} := if h : n ≤ 9223372036854775807 then ⟨n, wf_i64_of n (by omega) (by omega)⟩ else ⟨0, by decide⟩
theorem z64_1 (n : Nat) (h : n ≤ 9223372036854775807) : (z64 n).1 = (n : Int) := by unfold z64; rw [dif_pos h]
theorem z64_inj {m n : Nat} (h : m ≤ 9223372036854775807) (h' : n ≤ 9223372036854775807) (e : z64 m = z64 n) : m = n := by
  have := congrArg Subtype.val e
  rw [z64_1 m h, z64_1 n h'] at this
  omega
def rtPg (m v : Nat) : PG := ((⟨0, by decide⟩, ⟨0, by decide⟩, ⟨0, by decide⟩), z64 m, z64 v)
theorem rtPg_inj {m n v u : Nat} (h1 : m ≤ 9223372036854775807) (h2 : n ≤ 9223372036854775807) (h3 : v ≤ 9223372036854775807) (h4 : u ≤ 9223372036854775807) (e : rtPg m v = rtPg n u) : m = n ∧ v = u := by
  unfold rtPg at e
  simp only [Prod.mk.injEq, true_and] at e
  exact ⟨z64_inj h1 h2 e.1, z64_inj h3 h4 e.2⟩
theorem rtPg_cells (m v : Nat) (h1 : m ≤ 9223372036854775807) (h2 : v ≤ 9223372036854775807) : (pgCells (rtPg m v)).toArray = #[.int .i64 0, .int .i64 0, .int .i64 0, .int .i64 (m : Int), .int .i64 (v : Int)] := by
  unfold pgCells rtPg
  simp only [z64_1 m h1, z64_1 v h2]
theorem rtPg_key (m v : Nat) : (rtPg m v).1 = (⟨0, by decide⟩, ⟨0, by decide⟩, ⟨0, by decide⟩) := rfl
theorem rtPg_good (m v : Nat) : ¬ badKey (rtPg m v).1 := by unfold badKey rtPg; simp

/-- What is behind a put: the device, what was sealed, the version, the mark; the error. -/
structure RS where
  D : DS
  A : List AE
  ver : Nat
  mark : Nat
def rput (s : RS) (G : List K3) (plain : List UInt8) : RS × Int :=
  if (pwriteA s.D s.A G (((s.ver + 1) % 2 : Nat) : Int) (rtPg (s.A.length + 1) (s.ver + 1)) plain).2.2 = 0 then
    if (pwriteA s.D s.A G (((s.ver + 1) % 2 : Nat) : Int) (rtPg (s.A.length + 1) (s.ver + 1)) plain).1.sync.2 = 0 then
      if (pwriteA s.D s.A G (((s.ver + 1) % 2 : Nat) : Int) (rtPg (s.A.length + 1) (s.ver + 1)) plain).1.sync.1.beat.2 = 0 then
        (⟨(pwriteA s.D s.A G (((s.ver + 1) % 2 : Nat) : Int) (rtPg (s.A.length + 1) (s.ver + 1)) plain).1.sync.1.beat.1, (pwriteA s.D s.A G (((s.ver + 1) % 2 : Nat) : Int) (rtPg (s.A.length + 1) (s.ver + 1)) plain).2.1, s.ver + 1, s.A.length + 1⟩, 0)
      else (⟨(pwriteA s.D s.A G (((s.ver + 1) % 2 : Nat) : Int) (rtPg (s.A.length + 1) (s.ver + 1)) plain).1.sync.1.beat.1, (pwriteA s.D s.A G (((s.ver + 1) % 2 : Nat) : Int) (rtPg (s.A.length + 1) (s.ver + 1)) plain).2.1, s.ver, s.mark⟩, (pwriteA s.D s.A G (((s.ver + 1) % 2 : Nat) : Int) (rtPg (s.A.length + 1) (s.ver + 1)) plain).1.sync.1.beat.2)
    else (⟨(pwriteA s.D s.A G (((s.ver + 1) % 2 : Nat) : Int) (rtPg (s.A.length + 1) (s.ver + 1)) plain).1.sync.1, (pwriteA s.D s.A G (((s.ver + 1) % 2 : Nat) : Int) (rtPg (s.A.length + 1) (s.ver + 1)) plain).2.1, s.ver, s.mark⟩, (pwriteA s.D s.A G (((s.ver + 1) % 2 : Nat) : Int) (rtPg (s.A.length + 1) (s.ver + 1)) plain).1.sync.2)
  else (⟨(pwriteA s.D s.A G (((s.ver + 1) % 2 : Nat) : Int) (rtPg (s.A.length + 1) (s.ver + 1)) plain).1, (pwriteA s.D s.A G (((s.ver + 1) % 2 : Nat) : Int) (rtPg (s.A.length + 1) (s.ver + 1)) plain).2.1, s.ver, s.mark⟩, (pwriteA s.D s.A G (((s.ver + 1) % 2 : Nat) : Int) (rtPg (s.A.length + 1) (s.ver + 1)) plain).2.2)
/-- The same, by its parts. -/
def rput2 (s : RS) (R : DS × List AE × Int) : RS × Int :=
  if R.2.2 = 0 then
    if R.1.sync.2 = 0 then
      if R.1.sync.1.beat.2 = 0 then (⟨R.1.sync.1.beat.1, R.2.1, s.ver + 1, s.A.length + 1⟩, 0)
      else (⟨R.1.sync.1.beat.1, R.2.1, s.ver, s.mark⟩, R.1.sync.1.beat.2)
    else (⟨R.1.sync.1, R.2.1, s.ver, s.mark⟩, R.1.sync.2)
  else (⟨R.1, R.2.1, s.ver, s.mark⟩, R.2.2)
def rwr (s : RS) (G : List K3) (plain : List UInt8) : DS × List AE × Int := pwriteA s.D s.A G (((s.ver + 1) % 2 : Nat) : Int) (rtPg (s.A.length + 1) (s.ver + 1)) plain
theorem rput_eq (s : RS) (G : List K3) (plain : List UInt8) : rput s G plain = rput2 s (rwr s G plain) := rfl
def rget (s : RS) (G : List K3) : List UInt8 × Int := if s.ver = 0 then ([], 90) else preadA s.D s.A G ((s.ver % 2 : Nat) : Int) (rtPg s.mark s.ver)
theorem rput_len (s : RS) (G : List K3) (plain : List UInt8) : (rput s G plain).1.D.K.length = s.D.K.length ∧ (rput s G plain).1.D.W.length ≤ s.D.W.length + 1 ∧ (rput s G plain).1.A.length ≤ s.A.length + 1 ∧ (rput s G plain).1.ver ≤ s.ver + 1 ∧ (rput s G plain).1.mark ≤ s.mark + s.A.length + 1 := by
  have h := pwriteA_len s.D s.A G (((s.ver + 1) % 2 : Nat) : Int) (rtPg (s.A.length + 1) (s.ver + 1)) plain
  rw [rput_eq]
  change (rwr s G plain).1.K.length = _ ∧ (rwr s G plain).1.W.length ≤ _ ∧ (rwr s G plain).2.1.length ≤ _ at h
  generalize rwr s G plain = R at h ⊢
  have h2 := sync_len7 R.1
  unfold rput2
  split
  · split
    · split
      · exact ⟨by simp only [DS.beat]; omega, by simp only [DS.beat]; omega, h.2.2, by simp, by simp⟩
      · exact ⟨by simp only [DS.beat]; omega, by simp only [DS.beat]; omega, h.2.2, by simp, by simp; omega⟩
    · exact ⟨by simp only; omega, by simp only; omega, h.2.2, by simp, by simp; omega⟩
  · exact ⟨h.1, h.2.1, h.2.2, by simp, by simp; omega⟩
end Go.Proofs.YthimnkmoeonheaaDoor
