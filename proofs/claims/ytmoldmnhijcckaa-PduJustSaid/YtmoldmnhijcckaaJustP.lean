/- The law PduJust, every case joined. -/
import Derived.Test.YtmoldmnhijcckaaJust
set_option linter.unusedVariables false
set_option linter.unusedSectionVars false
set_option linter.unusedSimpArgs false
namespace Go.Proofs.Ytmoldmnhijcckaa
open Go.RowKit
theorem just_any (bs : List UInt8) (A : Option Addr) (c B : Nat) (hc : bs.length ≤ c) (w : World) (hB : B ≤ w.heap.size) (hr : Reads w B 1 A bs.length (bs.map bv)) :
    Calls Try.prog 4 #[.slice A bs.length c] w fun e w' => e = .returned (.bool true) ∧ Below w.heap.size w w' := by
  by_cases h5 : 5000 < bs.length
  · exact just_big bs A c B hc w hB hr h5
  rcases readOf_cases bs with h | h | h | h | ⟨q, l, h, hq, he, hl8, hl⟩
  · exact just_a bs A c B hc w hB hr h5 h
  · exact just_b bs A c B hc w hB hr h5 h
  · exact just_c bs A c B hc w hB hr h5 h
  · exact just_d bs A c B hc w hB hr h5 h
  · exact just_good bs A c B hc w hB hr h5 q l h hq he hl8 hl
end Go.Proofs.Ytmoldmnhijcckaa
