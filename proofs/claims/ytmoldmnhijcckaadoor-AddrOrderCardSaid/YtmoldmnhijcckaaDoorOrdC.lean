/- AddrOrder's card: the row, its listed variables tied to the program's text. -/
import Derived.Test.YtmoldmnhijcckaaDoorOrdS
set_option linter.unusedVariables false
namespace Go.Proofs.YtmoldmnhijcckaaDoor.addrOrder
open Go
theorem proved : Rows.AddrOrderCardSaid :=
  Claim7.holds_tied_plain_at .later [] [.data, .data, .data, .data, .sentinel, .sentinel, .pinned] true (true, "577da9d6b6c386b7aae00d836c33106c86a0728056baac0f80005aed1b2cd3c3") true
    holds (fun _ h => by cases h) (by kernel_rfl) (fun _ h => by cases h) addrOrder_row_tie rfl ⟨rfl, rfl⟩ (by kernel_rfl) rfl
    (fun f fn hf hfn => by
      obtain rfl : f = 12 := Option.some.inj ((show Tryd.prog.funcNamed "lanyard/lanyardlaw10.AddrOrder" = some 12 by kernel_rfl).symm.trans hf) |>.symm
      obtain rfl : fn = Tryd.f12 := (Option.some.inj (Tryd.func12.symm.trans hfn)).symm
      exact ⟨by kernel_rfl, fun j t ht => by
        rw [Tryd.params12] at ht
        have h3 : t = 50 := by
          rcases j with _ | _ | _ | j
          · simpa using ht.symm
          · simpa using ht.symm
          · simpa using ht.symm
          · simp at ht
        subst h3
        exact (show Tryd.prog.wantsStandIn 50 = false by kernel_rfl)⟩)
    (by kernel_rfl)
#print axioms proved
end Go.Proofs.YtmoldmnhijcckaaDoor.addrOrder
