/- slices.Clone of bytes. -/
import Derived.Test.YthbipcjgpocpaaaGreatNum
namespace Go.Proofs.YthbipcjgpocpaaaGreat
open Go.RowKit
set_option linter.unusedSimpArgs false
set_option linter.unusedVariables false
set_option maxRecDepth 100000

theorem byte_info : (Tryz.prog.info? 5).map (fun i => (i.zero, i.size, i.bytes)) = some (some (.int .u8 0), 1, 1) := by kernel_rfl

theorem byteV_one (l : List UInt8) : ∀ u ∈ l.map byteV, u.oneCell' = true := by
  intro u hu; obtain ⟨_, _, rfl⟩ := List.mem_map.1 hu; rfl

theorem cloneB_any (a : Option Addr) (n c : Nat) (b : List UInt8) (w : World) (hs : Sl w a n c (b.map byteV)) (hn : n ≤ 140737488355328) :
    Calls Tryz.prog 27 #[.slice a n c] w fun e w' =>
      ∃ v, e = .returned v ∧ w'.ownsRow w.heap.size 5 1 v n (b.map byteV) ∧ Keeps No w w' := by
  have hq := fun wx => Lib.run_eql_slice_nil (P := Tryz.prog) wx 22 5 a n c 0 0 Tryz.underlying22
  cases a with
  | none =>
    obtain ⟨rfl, rfl⟩ := hs.nil rfl
    have hb : b.map byteV = [] := List.eq_nil_of_length_eq_zero hs.len
    rw [hb]
    go_enter Tryz.func27, Tryz.ntmps27
    go_wp2_with fail
    go_ret
    exact ⟨_, rfl, World.ownsRow_nil _ _ _ _, Keeps.refl _ _⟩
  | some ad =>
    go_enter Tryz.func27, Tryz.ntmps27
    go_wp2_with (at_builtin; refine app_own rfl _ _ 22 rfl w.heap.size 5 (.int .u8 0) 1 Tryz.underlying22 byte_info rfl (by decide) _ 0 [] rfl (owns_lit0 w _ _ ?hB) _ _ _ _ rfl (hs.kept ((Keeps.refl _ _).alloc _)) ?h1 ?hb ?hB2 ?_)
    case hB => exact Nat.le_refl _
    case h1 => exact byteV_one b
    case hb => omega
    case hB2 => simp
    intro v w1 hown hg
    go_wp2_with fail
    go_ret
    exact ⟨_, rfl, hown, ((Keeps.refl No w).alloc _).grown hg (fun k hk hlt => absurd hlt (by simp [Value.ownBlock] at hk; omega))⟩

end Go.Proofs.YthbipcjgpocpaaaGreat
