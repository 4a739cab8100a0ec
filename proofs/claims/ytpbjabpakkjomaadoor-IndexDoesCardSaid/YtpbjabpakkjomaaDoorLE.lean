/- IndexDoes: act by act, what an index answers, and its keys, are as the document says: for every input; the variable errors.errorType as the program's text lays it (the tied card). -/
import Derived.Test.YtpbjabpakkjomaaDoorCards
import Derived.Test.YtpbjabpakkjomaaDoorTie
import Derived.Test.YtpbjabpakkjomaaDoorLD
import Derived.SevenTiedAt
namespace Go.Proofs.YtpbjabpakkjomaaDoor
open Go
theorem indexDoes_holds : Rows.IndexDoesCardSaid :=
  Claim7.holds_tied_plain_at .later [] [.handle] true (true, "2529d96129eb4ac955a871a52d184679b12bde96cc3dafc5692bc16054cce135") true
    RowOf.said (fun _ h => by cases h) (by kernel_rfl) (fun _ h => by cases h) indexDoes_row_tie rfl ⟨rfl, rfl⟩ (by kernel_rfl) rfl
    (fun f fn hf hfn => by
      obtain rfl : f = 3 := Option.some.inj ((show Tryd.prog.funcNamed "platelayer/platelayerlaw09.IndexDoes" = some 3 by kernel_rfl).symm.trans hf) |>.symm
      obtain rfl : fn = Tryd.f3 := (Option.some.inj (Tryd.func3.symm.trans hfn)).symm
      exact ⟨by kernel_rfl, fun j t ht => by
        rw [Tryd.params3] at ht
        have h3 : t = 3 ∨ t = 22 ∨ t = 23 := by
          rcases j with _ | _ | _ | j
          · left; simpa using ht.symm
          · right; left; simpa using ht.symm
          · right; right; simpa using ht.symm
          · simp at ht
        rcases h3 with rfl | rfl | rfl
        · exact (show Tryd.prog.wantsStandIn 3 = false by kernel_rfl)
        · exact (show Tryd.prog.wantsStandIn 22 = false by kernel_rfl)
        · exact (show Tryd.prog.wantsStandIn 23 = false by kernel_rfl)⟩)
    (by kernel_rfl)
#print axioms indexDoes_holds
end Go.Proofs.YtpbjabpakkjomaaDoor
