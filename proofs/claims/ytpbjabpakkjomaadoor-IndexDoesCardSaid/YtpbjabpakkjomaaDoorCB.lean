/- fault.Code at nil and at an errno. -/
import Derived.Test.YtpbjabpakkjomaaDoorK
import Derived.Test.YtpbjabpakkjomaaDoorCA
namespace Go.Proofs.YtpbjabpakkjomaaDoor
open Go.Proofs.YtpbjabpakkjomaaDoorW.PrintWords Go.RowKit Go.Extern.Stop Go.Stop Go.Extern

theorem code_nil (w : World) : Calls Tryd.prog 7 #[.nilIface] w fun e w' => e = .returned (.int .i64 0) ∧ Below w.heap.size w w' := by
  go_enter Tryd.func7, Tryd.ntmps7
  go_wp2_with ((go_at_call 18; refine (As.as_nil _ _).mono ?_; rintro e w' ⟨rfl, rfl⟩))
  go_ret
  exact ⟨rfl, (Below.refl _ _).alloc (Nat.le_refl _) _⟩
set_option maxHeartbeats 4000000 in
theorem code_errno (n : Int) (w : World) (hg : w.cell? ⟨0, 0, none⟩ = some (.iface 76 (.agg #[.pointer (some ⟨1, 27, none⟩)]))) : Calls Tryd.prog 7 #[.iface 31 (.int .i64 n)] w fun e w' => e = .returned (.int .i64 n) ∧ Below w.heap.size w w' := by
  have hlt : 0 < w.heap.size := by
    rcases Nat.eq_zero_or_pos w.heap.size with h0 | h
    · simp [World.cell?, h0] at hg
    · exact h
  have hgA : (w.alloc (.cells #[.int .i64 0] 31)).cell? ⟨0, 0, none⟩ = some (.iface 76 (.agg #[.pointer (some ⟨1, 27, none⟩)])) := by
    rw [World.cell?_alloc_lt _ _ ⟨0, 0, none⟩ hlt]; exact hg
  have htA : (w.alloc (.cells #[.int .i64 0] 31)).cell? ⟨w.heap.size, 0, none⟩ = some (.int .i64 0) := by simp
  have hfA : (w.alloc (.cells #[.int .i64 0] 31)).frozen? ⟨w.heap.size, 0, none⟩ = false := by simp
  go_enter Tryd.func7, Tryd.ntmps7
  go_wp2_with ((go_at_call 18; refine (As.as_hit n _ _ _ hgA htA hfA).mono ?_; rintro e w' ⟨rfl, rfl⟩))
  go_ret
  exact ⟨rfl, below_alloc (below_alloc (below_alloc (below_alloc (below_alloc (Below.refl _ _) _) _) _) _) _⟩
end Go.Proofs.YtpbjabpakkjomaaDoor
