/-
  No cell of these rows narrows 'for every input' (looked for: loops, veiled, ifaces, maps, wideKeys, modest, calm, conditions, laid).
  DERIVED. THE GIVEN ROWS OF THIS SEAT. 3 by the template 'for every input the law returns true; each argument reads behind the call as it read before'; 0 by the template 'total and deterministic' (their statements: YtmoldmnhijcckaaGreatTotals.lean).
  GIVEN WITH THE SEED: the statements are not yours to turn. If you find one false, say at which input.
  Laid BY PROGRAM, IN A SANDBOX (cutbox-rows.mjs): the forced cells as the released guide's own fill.sh prints them over the translation 81c68b8e9f9ca606… (all of the seat's roots in one cut). By AI agents, Wed Nov 11 2026. No macro, syntax, notation, axiom, sorry.
-/
import Derived.Test.YtmoldmnhijcckaaGreatChecked
import GoSem.Claim
import GoSem.ClaimJoined
import GoSem.ClaimMapViews
import Derived.JoinedTies
import Derived.KernelRfl
namespace Go.Proofs.YtmoldmnhijcckaaGreat
/- THE CELL 'sum', in the pinned program and in every row, IS THE sha256 OF THE DUMP (.gsa) THAT YtmoldmnhijcckaaGreatProg.lean LOADS. Nothing in Lean hashes anything: it is a label: what it is worth is what the hold of that sum in a sandbox is worth. -/
noncomputable def Tryz.pinned : Pinned := { name := "ytmoldmnhijcckaagreat", sum := "81c68b8e9f9ca606308b92764b401740076f31c8cca729009789c44fb126f018", checked := Tryz.checked }
namespace Rows
def none {H : Type} : Left H := { results := [], args := [] }

/-- 'lanyardlaw27.RouterPlays': WHATEVER THE INPUT: true; the input reads as it did. -/
def routerPlaysSpec : ChangeSpec := { name := "routerPlays", fn := fun _ => fun
  | [d] => { results := [.lit (.bool true)], args := [d] }
  | _ => none }
def routerPlaysRow : OpenClaim := { program := "ytmoldmnhijcckaagreat", sum := "81c68b8e9f9ca606308b92764b401740076f31c8cca729009789c44fb126f018", func := "lanyard/lanyardlaw27.RouterPlays", spec := "routerPlays", inPlace := ["maps.clone", "internal/bytealg.Compare"], unfollowed := true, recurses := true, plainKeys := false, apart := false }
def RouterPlaysSaid : Prop := routerPlaysRow.holds Tryz.pinned (OpenSpec.ofChange routerPlaysSpec)

/-- ITS FALSE NEIGHBOUR: 'it returns false'. Refute it at one input. -/
def routerPlaysWrong : ChangeSpec := { name := "routerPlays", fn := fun _ => fun
  | [d] => { results := [.lit (.bool false)], args := [d] }
  | _ => none }
def RouterPlaysWrongFalsely : Prop := routerPlaysRow.holds Tryz.pinned (OpenSpec.ofChange routerPlaysWrong)

/-- 'lanyardlaw26.SessionPlays': WHATEVER THE INPUT: true; the input reads as it did. -/
def sessionPlaysSpec : ChangeSpec := { name := "sessionPlays", fn := fun _ => fun
  | [d1, d2, d3] => { results := [.lit (.bool true)], args := [d1, d2, d3] }
  | _ => none }
def sessionPlaysRow : OpenClaim := { program := "ytmoldmnhijcckaagreat", sum := "81c68b8e9f9ca606308b92764b401740076f31c8cca729009789c44fb126f018", func := "lanyard/lanyardlaw26.SessionPlays", spec := "sessionPlays", inPlace := ["internal/bytealg.Compare"], unfollowed := true, recurses := true, plainKeys := false, apart := false }
def SessionPlaysSaid : Prop := sessionPlaysRow.holds Tryz.pinned (OpenSpec.ofChange sessionPlaysSpec)

/-- ITS FALSE NEIGHBOUR: 'it returns false'. Refute it at one input. -/
def sessionPlaysWrong : ChangeSpec := { name := "sessionPlays", fn := fun _ => fun
  | [d1, d2, d3] => { results := [.lit (.bool false)], args := [d1, d2, d3] }
  | _ => none }
def SessionPlaysWrongFalsely : Prop := sessionPlaysRow.holds Tryz.pinned (OpenSpec.ofChange sessionPlaysWrong)

/-- 'lanyardlaw27.RouterHas': WHATEVER THE INPUT: true; the input reads as it did. -/
def routerHasSpec : ChangeSpec := { name := "routerHas", fn := fun _ => fun
  | [d1, d2, d3] => { results := [.lit (.bool true)], args := [d1, d2, d3] }
  | _ => none }
def routerHasRow : OpenClaim := { program := "ytmoldmnhijcckaagreat", sum := "81c68b8e9f9ca606308b92764b401740076f31c8cca729009789c44fb126f018", func := "lanyard/lanyardlaw27.RouterHas", spec := "routerHas", inPlace := ["maps.clone", "internal/bytealg.Compare"], unfollowed := true, recurses := true, plainKeys := false, apart := false }
def RouterHasSaid : Prop := routerHasRow.holds Tryz.pinned (OpenSpec.ofChange routerHasSpec)

/-- ITS FALSE NEIGHBOUR: 'it returns false'. Refute it at one input. -/
def routerHasWrong : ChangeSpec := { name := "routerHas", fn := fun _ => fun
  | [d1, d2, d3] => { results := [.lit (.bool false)], args := [d1, d2, d3] }
  | _ => none }
def RouterHasWrongFalsely : Prop := routerHasRow.holds Tryz.pinned (OpenSpec.ofChange routerHasWrong)

/- THE SECOND FORM. 'bulk': how many values and letters a reading holds, each counted each time it is reached (what is shared counts as often as it is met; a slice's spare places count too). A statement '..UptoSaid' is the law's where the arguments, and the package variables that the reading takes, are together of bulk at most 1048576: NARROWER than '..Said'. Prove '..Said' where nothing that the law and all that it calls make is longer than what came in: it says more and counts as full. Else prove '..UptoSaid'. A law counts once. -/
mutual
def uptoBulk {H : Type} : DataW H → Nat
  | .lit (.string bytes) => bytes.length + 1
  | .lit _ => 1
  | .nil => 1
  | .ptr d => uptoBulk d + 1
  | .slice elems spare => uptoBulkAll elems + uptoBulkAll spare + 1
  | .agg parts => uptoBulkAll parts + 1
  | .iface _ d => uptoBulk d + 1
  | .map entries => uptoBulkEntries entries + 1
  | .held _ => 1
def uptoBulkAll {H : Type} : List (DataW H) → Nat
  | [] => 0
  | d :: r => uptoBulk d + uptoBulkAll r
def uptoBulkEntries {H : Type} : List (Lit × DataW H) → Nat
  | [] => 0
  | x :: r => uptoBulkEntry x + uptoBulkEntries r
def uptoBulkEntry {H : Type} : Lit × DataW H → Nat
  | (.string bytes, d) => bytes.length + uptoBulk d + 1
  | (_, d) => uptoBulk d + 1
 end
def uptoSmall : (H : Type) → List (DataW H) → Bool := fun _ ds => decide (uptoBulkAll ds ≤ 1048576)
def OpenSpec.upto (s : _root_.Go.ChangeSpec) : _root_.Go.OpenSpec := { _root_.Go.OpenSpec.ofChange s with cond := some uptoSmall }

/-- 'lanyardlaw27.RouterPlays', WHERE WHAT IT READS IS OF BULK AT MOST 1048576: true; the input reads as it did. -/
def routerPlaysUptoRow : OpenClaim := { program := "ytmoldmnhijcckaagreat", sum := "81c68b8e9f9ca606308b92764b401740076f31c8cca729009789c44fb126f018", func := "lanyard/lanyardlaw27.RouterPlays", spec := "routerPlays", inPlace := ["maps.clone", "internal/bytealg.Compare"], unfollowed := true, recurses := true, plainKeys := false, apart := false, narrowed := true }
def RouterPlaysUptoSaid : Prop := routerPlaysUptoRow.holds Tryz.pinned (OpenSpec.upto routerPlaysSpec)

/-- 'lanyardlaw26.SessionPlays', WHERE WHAT IT READS IS OF BULK AT MOST 1048576: true; the input reads as it did. -/
def sessionPlaysUptoRow : OpenClaim := { program := "ytmoldmnhijcckaagreat", sum := "81c68b8e9f9ca606308b92764b401740076f31c8cca729009789c44fb126f018", func := "lanyard/lanyardlaw26.SessionPlays", spec := "sessionPlays", inPlace := ["internal/bytealg.Compare"], unfollowed := true, recurses := true, plainKeys := false, apart := false, narrowed := true }
def SessionPlaysUptoSaid : Prop := sessionPlaysUptoRow.holds Tryz.pinned (OpenSpec.upto sessionPlaysSpec)

/-- 'lanyardlaw27.RouterHas', WHERE WHAT IT READS IS OF BULK AT MOST 1048576: true; the input reads as it did. -/
def routerHasUptoRow : OpenClaim := { program := "ytmoldmnhijcckaagreat", sum := "81c68b8e9f9ca606308b92764b401740076f31c8cca729009789c44fb126f018", func := "lanyard/lanyardlaw27.RouterHas", spec := "routerHas", inPlace := ["maps.clone", "internal/bytealg.Compare"], unfollowed := true, recurses := true, plainKeys := false, apart := false, narrowed := true }
def RouterHasUptoSaid : Prop := routerHasUptoRow.holds Tryz.pinned (OpenSpec.upto routerHasSpec)

end Rows
end Go.Proofs.YtmoldmnhijcckaaGreat
