/-
  No cell of these rows narrows 'for every input' (looked for: loops, veiled, ifaces, maps, wideKeys, modest, calm, conditions, laid).
  DERIVED. THE GIVEN ROWS OF THIS SEAT. 9 by the template 'for every input the law returns true; each argument reads behind the call as it read before'; 0 by the template 'total and deterministic' (their statements: YtmoldmnhijcckaaTotals.lean).
  GIVEN WITH THE SEED: the statements are not yours to turn. If you find one false, say at which input.
  Laid BY PROGRAM, IN A SANDBOX (cutbox-rows.mjs): the forced cells as the released guide's own fill.sh prints them over the translation 0f7181d12e883988… (all of the seat's roots in one cut). By AI agents, Wed Nov 11 2026. No macro, syntax, notation, axiom, sorry.
-/
import Derived.Test.YtmoldmnhijcckaaChecked
import GoSem.Claim
import GoSem.ClaimJoined
import GoSem.ClaimMapViews
import Derived.JoinedTies
import Derived.KernelRfl
namespace Go.Proofs.Ytmoldmnhijcckaa
/- THE CELL 'sum', in the pinned program and in every row, IS THE sha256 OF THE DUMP (.gsa) THAT YtmoldmnhijcckaaProg.lean LOADS. Nothing in Lean hashes anything: it is a label: what it is worth is what the hold of that sum in a sandbox is worth. -/
noncomputable def Try.pinned : Pinned := { name := "ytmoldmnhijcckaa", sum := "0f7181d12e883988b27f7b3aab64d3183da78d498382ad57c2966476a5494ac3", checked := Try.checked }
namespace Rows
def none {H : Type} : Left H := { results := [], args := [] }

/-- 'lanyardlaw25.PduBack': WHATEVER THE INPUT: true; the input reads as it did. -/
def pduBackSpec : ChangeSpec := { name := "pduBack", fn := fun _ => fun
  | [d1, d2, d3] => { results := [.lit (.bool true)], args := [d1, d2, d3] }
  | _ => none }
def pduBackRow : OpenClaim := { program := "ytmoldmnhijcckaa", sum := "0f7181d12e883988b27f7b3aab64d3183da78d498382ad57c2966476a5494ac3", func := "lanyard/lanyardlaw25.PduBack", spec := "pduBack", unfollowed := true, recurses := true, plainKeys := false, apart := false }
def PduBackSaid : Prop := pduBackRow.holds Try.pinned (OpenSpec.ofChange pduBackSpec)

/-- ITS FALSE NEIGHBOUR: 'it returns false'. Refute it at one input. -/
def pduBackWrong : ChangeSpec := { name := "pduBack", fn := fun _ => fun
  | [d1, d2, d3] => { results := [.lit (.bool false)], args := [d1, d2, d3] }
  | _ => none }
def PduBackWrongFalsely : Prop := pduBackRow.holds Try.pinned (OpenSpec.ofChange pduBackWrong)

/-- 'lanyardlaw25.PduJust': WHATEVER THE INPUT: true; the input reads as it did. -/
def pduJustSpec : ChangeSpec := { name := "pduJust", fn := fun _ => fun
  | [d] => { results := [.lit (.bool true)], args := [d] }
  | _ => none }
def pduJustRow : OpenClaim := { program := "ytmoldmnhijcckaa", sum := "0f7181d12e883988b27f7b3aab64d3183da78d498382ad57c2966476a5494ac3", func := "lanyard/lanyardlaw25.PduJust", spec := "pduJust", unfollowed := true, recurses := true, plainKeys := false, apart := false }
def PduJustSaid : Prop := pduJustRow.holds Try.pinned (OpenSpec.ofChange pduJustSpec)

/-- ITS FALSE NEIGHBOUR: 'it returns false'. Refute it at one input. -/
def pduJustWrong : ChangeSpec := { name := "pduJust", fn := fun _ => fun
  | [d] => { results := [.lit (.bool false)], args := [d] }
  | _ => none }
def PduJustWrongFalsely : Prop := pduJustRow.holds Try.pinned (OpenSpec.ofChange pduJustWrong)

/-- 'lanyardlaw25.PduReads': WHATEVER THE INPUT: true; the input reads as it did. -/
def pduReadsSpec : ChangeSpec := { name := "pduReads", fn := fun _ => fun
  | [d1, d2] => { results := [.lit (.bool true)], args := [d1, d2] }
  | _ => none }
def pduReadsRow : OpenClaim := { program := "ytmoldmnhijcckaa", sum := "0f7181d12e883988b27f7b3aab64d3183da78d498382ad57c2966476a5494ac3", func := "lanyard/lanyardlaw25.PduReads", spec := "pduReads", unfollowed := true, recurses := true, plainKeys := false, apart := false }
def PduReadsSaid : Prop := pduReadsRow.holds Try.pinned (OpenSpec.ofChange pduReadsSpec)

/-- ITS FALSE NEIGHBOUR: 'it returns false'. Refute it at one input. -/
def pduReadsWrong : ChangeSpec := { name := "pduReads", fn := fun _ => fun
  | [d1, d2] => { results := [.lit (.bool false)], args := [d1, d2] }
  | _ => none }
def PduReadsWrongFalsely : Prop := pduReadsRow.holds Try.pinned (OpenSpec.ofChange pduReadsWrong)

/-- 'lanyardlaw25.PduParts': WHATEVER THE INPUT: true; the input reads as it did. -/
def pduPartsSpec : ChangeSpec := { name := "pduParts", fn := fun _ => fun
  | [d1, d2] => { results := [.lit (.bool true)], args := [d1, d2] }
  | _ => none }
def pduPartsRow : OpenClaim := { program := "ytmoldmnhijcckaa", sum := "0f7181d12e883988b27f7b3aab64d3183da78d498382ad57c2966476a5494ac3", func := "lanyard/lanyardlaw25.PduParts", spec := "pduParts", unfollowed := true, recurses := true, plainKeys := false, apart := false }
def PduPartsSaid : Prop := pduPartsRow.holds Try.pinned (OpenSpec.ofChange pduPartsSpec)

/-- ITS FALSE NEIGHBOUR: 'it returns false'. Refute it at one input. -/
def pduPartsWrong : ChangeSpec := { name := "pduParts", fn := fun _ => fun
  | [d1, d2] => { results := [.lit (.bool false)], args := [d1, d2] }
  | _ => none }
def PduPartsWrongFalsely : Prop := pduPartsRow.holds Try.pinned (OpenSpec.ofChange pduPartsWrong)

/-- 'lanyardlaw27.RouterParts': WHATEVER THE INPUT: true; the input reads as it did. -/
def routerPartsSpec : ChangeSpec := { name := "routerParts", fn := fun _ => fun
  | [d1, d2, d3] => { results := [.lit (.bool true)], args := [d1, d2, d3] }
  | _ => none }
def routerPartsRow : OpenClaim := { program := "ytmoldmnhijcckaa", sum := "0f7181d12e883988b27f7b3aab64d3183da78d498382ad57c2966476a5494ac3", func := "lanyard/lanyardlaw27.RouterParts", spec := "routerParts", inPlace := ["maps.clone", "internal/bytealg.Compare"], unfollowed := true, recurses := true, plainKeys := false, apart := false }
def RouterPartsSaid : Prop := routerPartsRow.holds Try.pinned (OpenSpec.ofChange routerPartsSpec)

/-- ITS FALSE NEIGHBOUR: 'it returns false'. Refute it at one input. -/
def routerPartsWrong : ChangeSpec := { name := "routerParts", fn := fun _ => fun
  | [d1, d2, d3] => { results := [.lit (.bool false)], args := [d1, d2, d3] }
  | _ => none }
def RouterPartsWrongFalsely : Prop := routerPartsRow.holds Try.pinned (OpenSpec.ofChange routerPartsWrong)

/-- 'lanyardlaw27.RouterOnly': WHATEVER THE INPUT: true; the input reads as it did. -/
def routerOnlySpec : ChangeSpec := { name := "routerOnly", fn := fun _ => fun
  | [d] => { results := [.lit (.bool true)], args := [d] }
  | _ => none }
def routerOnlyRow : OpenClaim := { program := "ytmoldmnhijcckaa", sum := "0f7181d12e883988b27f7b3aab64d3183da78d498382ad57c2966476a5494ac3", func := "lanyard/lanyardlaw27.RouterOnly", spec := "routerOnly", inPlace := ["maps.clone", "internal/bytealg.Compare"], unfollowed := true, recurses := true, plainKeys := false, apart := false }
def RouterOnlySaid : Prop := routerOnlyRow.holds Try.pinned (OpenSpec.ofChange routerOnlySpec)

/-- ITS FALSE NEIGHBOUR: 'it returns false'. Refute it at one input. -/
def routerOnlyWrong : ChangeSpec := { name := "routerOnly", fn := fun _ => fun
  | [d] => { results := [.lit (.bool false)], args := [d] }
  | _ => none }
def RouterOnlyWrongFalsely : Prop := routerOnlyRow.holds Try.pinned (OpenSpec.ofChange routerOnlyWrong)

/-- 'lanyardlaw26.SessionSerials': WHATEVER THE INPUT: true; the input reads as it did. -/
def sessionSerialsSpec : ChangeSpec := { name := "sessionSerials", fn := fun _ => fun
  | [d1, d2] => { results := [.lit (.bool true)], args := [d1, d2] }
  | _ => none }
def sessionSerialsRow : OpenClaim := { program := "ytmoldmnhijcckaa", sum := "0f7181d12e883988b27f7b3aab64d3183da78d498382ad57c2966476a5494ac3", func := "lanyard/lanyardlaw26.SessionSerials", spec := "sessionSerials", inPlace := ["internal/bytealg.Compare"], unfollowed := true, recurses := true, plainKeys := false, apart := false }
def SessionSerialsSaid : Prop := sessionSerialsRow.holds Try.pinned (OpenSpec.ofChange sessionSerialsSpec)

/-- ITS FALSE NEIGHBOUR: 'it returns false'. Refute it at one input. -/
def sessionSerialsWrong : ChangeSpec := { name := "sessionSerials", fn := fun _ => fun
  | [d1, d2] => { results := [.lit (.bool false)], args := [d1, d2] }
  | _ => none }
def SessionSerialsWrongFalsely : Prop := sessionSerialsRow.holds Try.pinned (OpenSpec.ofChange sessionSerialsWrong)

/-- 'lanyardlaw26.SessionParts': WHATEVER THE INPUT: true; the input reads as it did. -/
def sessionPartsSpec : ChangeSpec := { name := "sessionParts", fn := fun _ => fun
  | [d1, d2, d3] => { results := [.lit (.bool true)], args := [d1, d2, d3] }
  | _ => none }
def sessionPartsRow : OpenClaim := { program := "ytmoldmnhijcckaa", sum := "0f7181d12e883988b27f7b3aab64d3183da78d498382ad57c2966476a5494ac3", func := "lanyard/lanyardlaw26.SessionParts", spec := "sessionParts", inPlace := ["internal/bytealg.Compare"], unfollowed := true, recurses := true, plainKeys := false, apart := false }
def SessionPartsSaid : Prop := sessionPartsRow.holds Try.pinned (OpenSpec.ofChange sessionPartsSpec)

/-- ITS FALSE NEIGHBOUR: 'it returns false'. Refute it at one input. -/
def sessionPartsWrong : ChangeSpec := { name := "sessionParts", fn := fun _ => fun
  | [d1, d2, d3] => { results := [.lit (.bool false)], args := [d1, d2, d3] }
  | _ => none }
def SessionPartsWrongFalsely : Prop := sessionPartsRow.holds Try.pinned (OpenSpec.ofChange sessionPartsWrong)

/-- 'lanyardlaw26.SessionAlone': WHATEVER THE INPUT: true; the input reads as it did. -/
def sessionAloneSpec : ChangeSpec := { name := "sessionAlone", fn := fun _ => fun
  | [d1, d2, d3] => { results := [.lit (.bool true)], args := [d1, d2, d3] }
  | _ => none }
def sessionAloneRow : OpenClaim := { program := "ytmoldmnhijcckaa", sum := "0f7181d12e883988b27f7b3aab64d3183da78d498382ad57c2966476a5494ac3", func := "lanyard/lanyardlaw26.SessionAlone", spec := "sessionAlone", inPlace := ["internal/bytealg.Compare"], unfollowed := true, recurses := true, plainKeys := false, apart := false }
def SessionAloneSaid : Prop := sessionAloneRow.holds Try.pinned (OpenSpec.ofChange sessionAloneSpec)

/-- ITS FALSE NEIGHBOUR: 'it returns false'. Refute it at one input. -/
def sessionAloneWrong : ChangeSpec := { name := "sessionAlone", fn := fun _ => fun
  | [d1, d2, d3] => { results := [.lit (.bool false)], args := [d1, d2, d3] }
  | _ => none }
def SessionAloneWrongFalsely : Prop := sessionAloneRow.holds Try.pinned (OpenSpec.ofChange sessionAloneWrong)

/- THE SECOND FORM. 'bulk': how many values and letters a reading holds, each counted each time it is reached (what is shared counts as often as it is met; a slice's spare places count too). A statement '..UptoSaid' is the law's where the arguments, and the package variables that the reading takes, are together of bulk at most 1048576: NARROWER than '..Said'. Prove '..Said' where nothing that the law and all that it calls make is longer than what came in: it says more and counts as full. Else prove '..UptoSaid'. A law counts once. -/
mutual
def uptoBulk {H : Type} : DataW H → Nat
  | .lit (.string bytes) => bytes.length + 1
  | .lit _ => 1
  | .nil => 1
  | .ptr d => uptoBulk d + 1
  | .slice elems spare => uptoBulkAll elems + uptoBulkAll spare + 1
  | .agg parts => uptoBulkAll parts + 1
  | .iface _ d => uptoBulk d + 1
  | .map entries => uptoBulkEntries entries + 1
  | .held _ => 1
def uptoBulkAll {H : Type} : List (DataW H) → Nat
  | [] => 0
  | d :: r => uptoBulk d + uptoBulkAll r
def uptoBulkEntries {H : Type} : List (Lit × DataW H) → Nat
  | [] => 0
  | x :: r => uptoBulkEntry x + uptoBulkEntries r
def uptoBulkEntry {H : Type} : Lit × DataW H → Nat
  | (.string bytes, d) => bytes.length + uptoBulk d + 1
  | (_, d) => uptoBulk d + 1
 end
def uptoSmall : (H : Type) → List (DataW H) → Bool := fun _ ds => decide (uptoBulkAll ds ≤ 1048576)
def OpenSpec.upto (s : _root_.Go.ChangeSpec) : _root_.Go.OpenSpec := { _root_.Go.OpenSpec.ofChange s with cond := some uptoSmall }

/-- 'lanyardlaw25.PduBack', WHERE WHAT IT READS IS OF BULK AT MOST 1048576: true; the input reads as it did. -/
def pduBackUptoRow : OpenClaim := { program := "ytmoldmnhijcckaa", sum := "0f7181d12e883988b27f7b3aab64d3183da78d498382ad57c2966476a5494ac3", func := "lanyard/lanyardlaw25.PduBack", spec := "pduBack", unfollowed := true, recurses := true, plainKeys := false, apart := false, narrowed := true }
def PduBackUptoSaid : Prop := pduBackUptoRow.holds Try.pinned (OpenSpec.upto pduBackSpec)

/-- 'lanyardlaw25.PduJust', WHERE WHAT IT READS IS OF BULK AT MOST 1048576: true; the input reads as it did. -/
def pduJustUptoRow : OpenClaim := { program := "ytmoldmnhijcckaa", sum := "0f7181d12e883988b27f7b3aab64d3183da78d498382ad57c2966476a5494ac3", func := "lanyard/lanyardlaw25.PduJust", spec := "pduJust", unfollowed := true, recurses := true, plainKeys := false, apart := false, narrowed := true }
def PduJustUptoSaid : Prop := pduJustUptoRow.holds Try.pinned (OpenSpec.upto pduJustSpec)

/-- 'lanyardlaw25.PduReads', WHERE WHAT IT READS IS OF BULK AT MOST 1048576: true; the input reads as it did. -/
def pduReadsUptoRow : OpenClaim := { program := "ytmoldmnhijcckaa", sum := "0f7181d12e883988b27f7b3aab64d3183da78d498382ad57c2966476a5494ac3", func := "lanyard/lanyardlaw25.PduReads", spec := "pduReads", unfollowed := true, recurses := true, plainKeys := false, apart := false, narrowed := true }
def PduReadsUptoSaid : Prop := pduReadsUptoRow.holds Try.pinned (OpenSpec.upto pduReadsSpec)

/-- 'lanyardlaw25.PduParts', WHERE WHAT IT READS IS OF BULK AT MOST 1048576: true; the input reads as it did. -/
def pduPartsUptoRow : OpenClaim := { program := "ytmoldmnhijcckaa", sum := "0f7181d12e883988b27f7b3aab64d3183da78d498382ad57c2966476a5494ac3", func := "lanyard/lanyardlaw25.PduParts", spec := "pduParts", unfollowed := true, recurses := true, plainKeys := false, apart := false, narrowed := true }
def PduPartsUptoSaid : Prop := pduPartsUptoRow.holds Try.pinned (OpenSpec.upto pduPartsSpec)

/-- 'lanyardlaw27.RouterParts', WHERE WHAT IT READS IS OF BULK AT MOST 1048576: true; the input reads as it did. -/
def routerPartsUptoRow : OpenClaim := { program := "ytmoldmnhijcckaa", sum := "0f7181d12e883988b27f7b3aab64d3183da78d498382ad57c2966476a5494ac3", func := "lanyard/lanyardlaw27.RouterParts", spec := "routerParts", inPlace := ["maps.clone", "internal/bytealg.Compare"], unfollowed := true, recurses := true, plainKeys := false, apart := false, narrowed := true }
def RouterPartsUptoSaid : Prop := routerPartsUptoRow.holds Try.pinned (OpenSpec.upto routerPartsSpec)

/-- 'lanyardlaw27.RouterOnly', WHERE WHAT IT READS IS OF BULK AT MOST 1048576: true; the input reads as it did. -/
def routerOnlyUptoRow : OpenClaim := { program := "ytmoldmnhijcckaa", sum := "0f7181d12e883988b27f7b3aab64d3183da78d498382ad57c2966476a5494ac3", func := "lanyard/lanyardlaw27.RouterOnly", spec := "routerOnly", inPlace := ["maps.clone", "internal/bytealg.Compare"], unfollowed := true, recurses := true, plainKeys := false, apart := false, narrowed := true }
def RouterOnlyUptoSaid : Prop := routerOnlyUptoRow.holds Try.pinned (OpenSpec.upto routerOnlySpec)

/-- 'lanyardlaw26.SessionSerials', WHERE WHAT IT READS IS OF BULK AT MOST 1048576: true; the input reads as it did. -/
def sessionSerialsUptoRow : OpenClaim := { program := "ytmoldmnhijcckaa", sum := "0f7181d12e883988b27f7b3aab64d3183da78d498382ad57c2966476a5494ac3", func := "lanyard/lanyardlaw26.SessionSerials", spec := "sessionSerials", inPlace := ["internal/bytealg.Compare"], unfollowed := true, recurses := true, plainKeys := false, apart := false, narrowed := true }
def SessionSerialsUptoSaid : Prop := sessionSerialsUptoRow.holds Try.pinned (OpenSpec.upto sessionSerialsSpec)

/-- 'lanyardlaw26.SessionParts', WHERE WHAT IT READS IS OF BULK AT MOST 1048576: true; the input reads as it did. -/
def sessionPartsUptoRow : OpenClaim := { program := "ytmoldmnhijcckaa", sum := "0f7181d12e883988b27f7b3aab64d3183da78d498382ad57c2966476a5494ac3", func := "lanyard/lanyardlaw26.SessionParts", spec := "sessionParts", inPlace := ["internal/bytealg.Compare"], unfollowed := true, recurses := true, plainKeys := false, apart := false, narrowed := true }
def SessionPartsUptoSaid : Prop := sessionPartsUptoRow.holds Try.pinned (OpenSpec.upto sessionPartsSpec)

/-- 'lanyardlaw26.SessionAlone', WHERE WHAT IT READS IS OF BULK AT MOST 1048576: true; the input reads as it did. -/
def sessionAloneUptoRow : OpenClaim := { program := "ytmoldmnhijcckaa", sum := "0f7181d12e883988b27f7b3aab64d3183da78d498382ad57c2966476a5494ac3", func := "lanyard/lanyardlaw26.SessionAlone", spec := "sessionAlone", inPlace := ["internal/bytealg.Compare"], unfollowed := true, recurses := true, plainKeys := false, apart := false, narrowed := true }
def SessionAloneUptoSaid : Prop := sessionAloneUptoRow.holds Try.pinned (OpenSpec.upto sessionAloneSpec)

end Rows
end Go.Proofs.Ytmoldmnhijcckaa
