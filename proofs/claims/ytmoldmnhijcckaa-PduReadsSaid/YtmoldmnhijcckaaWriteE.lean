/- The contract of pdu.Write, whole. -/
import Derived.Test.YtmoldmnhijcckaaWriteA
import Derived.Test.YtmoldmnhijcckaaWriteB
import Derived.Test.YtmoldmnhijcckaaWriteC
import Derived.Test.YtmoldmnhijcckaaWriteD
set_option linter.unusedVariables false
set_option linter.unusedSectionVars false
set_option linter.unusedSimpArgs false
namespace Go.Proofs.Ytmoldmnhijcckaa
open Go.RowKit
theorem kind_cases {k : Int} (h : isKind k = true) : k = 0 ∨ k = 1 ∨ k = 2 ∨ k = 3 ∨ k = 4 ∨ k = 6 ∨ k = 7 ∨ k = 8 ∨ k = 10 := by simpa [isKind] using h
theorem write_any (p : Pdu) (w : World) : Calls Try.prog 13 #[p.val] w (WrPost p w) := by
  cases h : pduOk p
  · exact write_no p w h
  · rcases kind_cases (ok_parts h).1 with hk | hk | hk | hk | hk | hk | hk | hk | hk
    · exact write_k0 p w h hk
    · exact write_k1 p w h hk
    · exact write_k2 p w h hk
    · exact write_k3 p w h hk
    · cases ha : p.add
      · exact write_k4f p w h hk ha
      · exact write_k4t p w h hk ha
    · cases ha : p.add
      · exact write_k6f p w h hk ha
      · exact write_k6t p w h hk ha
    · exact write_k7 p w h hk
    · exact write_k8 p w h hk
    · exact write_k10 p w h hk
end Go.Proofs.Ytmoldmnhijcckaa
