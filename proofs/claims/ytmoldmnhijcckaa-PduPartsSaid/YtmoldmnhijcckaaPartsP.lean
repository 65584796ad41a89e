/- The law PduParts, every case joined. -/
import Derived.Test.YtmoldmnhijcckaaParts
set_option linter.unusedVariables false
set_option linter.unusedSectionVars false
set_option linter.unusedSimpArgs false
namespace Go.Proofs.Ytmoldmnhijcckaa
open Go.RowKit
theorem parts_any (w : World) (ps : List Pdu) (A : Option Addr) (c B : Nat) (hc : ps.length ≤ c) (hm : c ≤ maxLen) (hr : Reads w B 26 A ps.length (ps.flatMap Pdu.cells)) (n : Int) (hl : -9223372036854775808 ≤ n) (hu : n ≤ 9223372036854775807) (hB : B ≤ w.heap.size) :
    Calls Try.prog 6 #[.slice A ps.length c, .int .i64 n] w fun e w' => e = .returned (.bool true) ∧ Below w.heap.size w w' := by
  by_cases h1 : 30 < ps.length
  · exact parts_upa ps A c n w h1
  by_cases h2 : n < 0
  · exact parts_upb ps A c n w h1 h2
  · obtain ⟨m, rfl⟩ := Int.eq_ofNat_of_zero_le (by omega : 0 ≤ n)
    exact parts_go ps _ rfl A c B m w hB hr h1
end Go.Proofs.Ytmoldmnhijcckaa
