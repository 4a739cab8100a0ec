/- The readings of this seat's argument types. -/
import Derived.Test.YtkcpbglimpaieaaO
import Derived.Test.YtkcpbglimpaieaaVx0
import Derived.KernelRfl
namespace Go.Proofs.Ytkcpbglimpaieaa
open Go.RowKit Go.Proofs.YtkcpbglimpaieaaW.PrintWords Opn
theorem opens3 : Opens Try.prog 3 (Kd.int .i64) (fun n => (Lit.int .i64 n).wf = true) := opens_int Try.underlying3 (by kernel_rfl)
theorem opens27 : Opens Try.prog 27 (Kd.int .u32) (fun n => (Lit.int .u32 n).wf = true) := opens_int Try.underlying27 (by kernel_rfl)
def wf29 (x : V.S29) : Prop := (Lit.int .i64 x.f0).wf = true ∧ (Lit.int .i64 x.f1).wf = true ∧ (Lit.int .u32 x.f2).wf = true
theorem opens29 : Opens Try.prog 29 V.k29 wf29 :=
  opens_struct3 Try.underlying29 (by kernel_rfl) rfl rfl rfl (fun x : V.S29 => (x.f0, x.f1, x.f2)) (fun p => ⟨p.1, p.2.1, p.2.2⟩) (fun _ => rfl) opens3 opens3 opens27
theorem opens22 : Opens Try.prog 22 (Kd.slice 29 V.k29) (fun l => l.length ≤ maxLen ∧ ∀ a ∈ l, wf29 a) := opens_slice Try.underlying22 (by kernel_rfl) opens29
theorem opens25 : Opens Try.prog 25 (Kd.slice 3 (Kd.int .i64)) (fun l => l.length ≤ maxLen ∧ ∀ a ∈ l, (Lit.int .i64 a).wf = true) := opens_slice Try.underlying25 (by kernel_rfl) opens3
end Go.Proofs.Ytkcpbglimpaieaa
