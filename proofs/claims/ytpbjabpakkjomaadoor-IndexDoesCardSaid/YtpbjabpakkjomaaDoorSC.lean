/- math/bits.Len at small numbers, by hand. -/
import Derived.Test.YtpbjabpakkjomaaDoorSB
namespace Go.Proofs.YtpbjabpakkjomaaDoor
open Go.RowKit Go.Proofs.YtpbjabpakkjomaaDoorW.PrintWords Go.Proofs.YtpbjabpakkjomaaDoorW.PrintLast Go.Proofs.YtpbjabpakkjomaaDoorW.PrintMore
set_option linter.unusedVariables false
set_option linter.unusedSimpArgs false

/-- how many bits a number has. -/
def lenOf (x : Int) : Int := if x = 0 then 0 else ((Nat.log2 x.toNat + 1 : Nat) : Int)
set_option maxRecDepth 100000 in
set_option maxHeartbeats 4000000 in
theorem len64_calls (x : Int) (w : World) (h0 : 0 ≤ x) (h1 : x < 256) :
    Calls Tryd.prog 41 #[.int .u64 x] w fun e w' => e = .returned (.int .i64 (lenOf x)) ∧ w' = w := by
  have d1 : decide (4294967296 ≤ x) = false := decide_eq_false (by omega)
  have d2 : decide (65536 ≤ x) = false := decide_eq_false (by omega)
  have d3 : decide (256 ≤ x) = false := decide_eq_false (by omega)
  go_enter Tryd.func41, Tryd.ntmps41
  go_wp2
  go_ret
  refine ⟨?_, rfl⟩
  refine congrArg (fun n : Int => Ending.returned (.int .i64 n)) ?_
  obtain ⟨m, rfl⟩ : ∃ m : Nat, x = (m : Int) := ⟨x.toNat, by omega⟩
  have hm : m < 256 := by omega
  have e : ∀ (b : ByteArray) (h : (m : Int).toNat < b.size), b[(m : Int).toNat]'h = b.data.getD m 0 := fun b h => by
    have h' : m < b.data.size := by simpa using h
    have h2 : ¬ b.size ≤ m := by simpa using h'
    simp [Array.getD, ByteArray.getElem_eq_getElem_data, h2]
  rw [e]
  clear d1 d2 d3 h0 h1 e
  revert m
  decide +kernel
theorem len_calls (x : Int) (w : World) (h0 : 0 ≤ x) (h1 : x < 256) :
    Calls Tryd.prog 27 #[.int .u64 x] w fun e w' => e = .returned (.int .i64 (lenOf x)) ∧ w' = w := by
  go_enter Tryd.func27, Tryd.ntmps27
  go_wp2_with ((go_at_call 41; refine (len64_calls x _ h0 h1).mono ?_; rintro e w1 ⟨rfl, rfl⟩))
  go_ret
  exact ⟨rfl, rfl⟩
/-- the power of two above a number. -/
def pow2Of (x : Int) : Int := IntKind.u64.wrap (2 ^ min (lenOf x).toNat 64)
theorem pow2_calls (x : Int) (w : World) (h0 : 0 ≤ x) (h1 : x < 256) :
    Calls Tryd.prog 43 #[.int .i64 x] w fun e w' => e = .returned (.int .u64 (pow2Of x)) ∧ w' = w := by
  have e1 : IntKind.u64.wrap x = x := by unfold IntKind.wrap; simp [IntKind.signed, IntKind.bits]; omega
  have hl : 0 ≤ lenOf x := by unfold lenOf; split <;> omega
  have n1 := fun w => len_calls x w h0 h1
  generalize hq : lenOf x = q at *
  go_enter Tryd.func43, Tryd.ntmps43
  go_wp2_with ((go_at_call 27; (try simp only [e1]); refine (n1 _).mono ?_; rintro e w1 ⟨rfl, rfl⟩))
  go_ret
  subst hq
  exact ⟨rfl, rfl⟩
end Go.Proofs.YtpbjabpakkjomaaDoor
