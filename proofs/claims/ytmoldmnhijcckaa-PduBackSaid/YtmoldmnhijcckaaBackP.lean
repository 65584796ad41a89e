/- The law PduBack, every case joined. -/
import Derived.Test.YtmoldmnhijcckaaBack
set_option linter.unusedVariables false
set_option linter.unusedSectionVars false
set_option linter.unusedSimpArgs false
namespace Go.Proofs.Ytmoldmnhijcckaa
open Go.RowKit
theorem back_any (w : World) (p : Pdu) (bs : List UInt8) (A : Option Addr) (c B : Nat) (hc : bs.length ≤ c) (hr : Reads w B 1 A bs.length (bs.map bv)) (n : Int) (hl : -9223372036854775808 ≤ n) (hu : n ≤ 9223372036854775807) (hB : B ≤ w.heap.size) :
    Calls Try.prog 3 #[p.val, .slice A bs.length c, .int .i64 n] w fun e w' => e = .returned (.bool true) ∧ Below w.heap.size w w' := by
  by_cases h1 : 1000 < p.text.size
  · exact back_upa w p bs A c B hc hr n hB h1
  by_cases h2 : 500 < bs.length
  · exact back_upb w p bs A c B hc hr n hB h1 h2
  by_cases h3 : n < 0
  · exact back_upc w p bs A c B hc hr n hB h1 h2 h3
  cases hp : pduOk p
  · exact back_no w p bs A c B hc hr n hB h1 h2 h3 hp
  · obtain ⟨m, rfl⟩ := Int.eq_ofNat_of_zero_le (by omega : 0 ≤ n)
    exact back_ok w p bs A c B hc hr m hB h1 h2 hp
end Go.Proofs.Ytmoldmnhijcckaa
