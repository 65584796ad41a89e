/- AddrCuts's card: the row, its listed variables tied to the program's text. -/
import Derived.Test.YtmoldmnhijcckaaDoorCtsS
set_option linter.unusedVariables false
namespace Go.Proofs.YtmoldmnhijcckaaDoor.addrCuts
open Go
theorem proved : Rows.AddrCutsCardSaid :=
  Claim7.holds_tied_plain_at .later [] [.data, .data, .data, .data, .sentinel, .sentinel, .pinned] true (true, "577da9d6b6c386b7aae00d836c33106c86a0728056baac0f80005aed1b2cd3c3") true
    holds (fun _ h => by cases h) (by kernel_rfl) (fun _ h => by cases h) addrCuts_row_tie rfl ⟨rfl, rfl⟩ (by kernel_rfl) rfl
    (fun f fn hf hfn => by
      obtain rfl : f = 9 := Option.some.inj ((show Tryd.prog.funcNamed "lanyard/lanyardlaw10.AddrCuts" = some 9 by kernel_rfl).symm.trans hf) |>.symm
      obtain rfl : fn = Tryd.f9 := (Option.some.inj (Tryd.func9.symm.trans hfn)).symm
      exact ⟨by kernel_rfl, fun j t ht => by
        rw [Tryd.params9] at ht
        rcases j with _ | _ | j
        · obtain rfl : t = 50 := by simpa using ht.symm
          exact (show Tryd.prog.wantsStandIn 50 = false by kernel_rfl)
        · obtain rfl : t = 3 := by simpa using ht.symm
          exact (show Tryd.prog.wantsStandIn 3 = false by kernel_rfl)
        · simp at ht⟩)
    (by kernel_rfl)
#print axioms proved
end Go.Proofs.YtmoldmnhijcckaaDoor.addrCuts
