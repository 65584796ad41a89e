/- RepoPlays's card: the row, its listed variables tied to the program's text. -/
import Derived.Test.YtmoldmnhijcckaaDoorRpPlS
set_option linter.unusedVariables false
namespace Go.Proofs.YtmoldmnhijcckaaDoor.repoPlays
open Go
theorem proved : Rows.RepoPlaysCardSaid :=
  Claim7.holds_tied_plain_at .later [] [.data, .pinned] true (true, "577da9d6b6c386b7aae00d836c33106c86a0728056baac0f80005aed1b2cd3c3") true
    holds (fun _ h => by cases h) (by kernel_rfl) (fun _ h => by cases h) repoPlays_row_tie rfl ⟨rfl, rfl⟩ (by kernel_rfl) rfl
    (fun f fn hf hfn => by
      obtain rfl : f = 5 := Option.some.inj ((show Tryd.prog.funcNamed "lanyard/lanyardlaw21.RepoPlays" = some 5 by kernel_rfl).symm.trans hf) |>.symm
      obtain rfl : fn = Tryd.f5 := (Option.some.inj (Tryd.func5.symm.trans hfn)).symm
      exact ⟨by kernel_rfl, fun j t ht => by
        rw [Tryd.params5] at ht
        rcases j with _ | _ | j
        · obtain rfl : t = 22 := by simpa using ht.symm
          exact (show Tryd.prog.wantsStandIn 22 = false by kernel_rfl)
        · obtain rfl : t = 35 := by simpa using ht.symm
          exact (show Tryd.prog.wantsStandIn 35 = false by kernel_rfl)
        · simp at ht⟩)
    (by kernel_rfl)
#print axioms proved
end Go.Proofs.YtmoldmnhijcckaaDoor.repoPlays
