/- RepoFirst's card: the row, its listed variables tied to the program's text. -/
import Derived.Test.YtmoldmnhijcckaaDoorRfWS
set_option linter.unusedVariables false
namespace Go.Proofs.YtmoldmnhijcckaaDoor.repoFirst
open Go
theorem proved : Rows.RepoFirstCardSaid :=
  Claim7.holds_tied_plain_at .later [] [.data, .pinned] true (true, "577da9d6b6c386b7aae00d836c33106c86a0728056baac0f80005aed1b2cd3c3") true
    holds (fun _ h => by cases h) (by kernel_rfl) (fun _ h => by cases h) repoFirst_row_tie rfl ⟨rfl, rfl⟩ (by kernel_rfl) rfl
    (fun f fn hf hfn => by
      obtain rfl : f = 3 := Option.some.inj ((show Tryd.prog.funcNamed "lanyard/lanyardlaw21.RepoFirst" = some 3 by kernel_rfl).symm.trans hf) |>.symm
      obtain rfl : fn = Tryd.f3 := (Option.some.inj (Tryd.func3.symm.trans hfn)).symm
      exact ⟨by kernel_rfl, fun j t ht => by
        rw [Tryd.params3] at ht
        rcases j with _ | _ | j
        · obtain rfl : t = 22 := by simpa using ht.symm
          exact (show Tryd.prog.wantsStandIn 22 = false by kernel_rfl)
        · obtain rfl : t = 3 := by simpa using ht.symm
          exact (show Tryd.prog.wantsStandIn 3 = false by kernel_rfl)
        · simp at ht⟩)
    (by kernel_rfl)
#print axioms proved
end Go.Proofs.YtmoldmnhijcckaaDoor.repoFirst
