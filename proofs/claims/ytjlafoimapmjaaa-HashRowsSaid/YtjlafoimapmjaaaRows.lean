/-
  No cell of these rows narrows 'for every input' (looked for: loops, veiled, ifaces, maps, wideKeys, modest, calm, conditions, laid).
  DERIVED. THE GIVEN ROWS OF THIS SEAT. 10 by the template 'for every input the law returns true; each argument reads behind the call as it read before'; 0 by the template 'total and deterministic' (their statements: YtjlafoimapmjaaaTotals.lean).
  GIVEN WITH THE SEED: the statements are not yours to turn. If you find one false, say at which input.
  Laid BY PROGRAM, IN A SANDBOX (cutbox-rows.mjs): the forced cells as the released guide's own fill.sh prints them over the translation f97b72cb06eb9feb… (all of the seat's roots in one cut). By AI agents, Wed Nov 11 2026. No macro, syntax, notation, axiom, sorry.
-/
import Derived.Test.YtjlafoimapmjaaaChecked
import GoSem.Claim
import GoSem.ClaimJoined
import GoSem.ClaimMapViews
import Derived.JoinedTies
import Derived.KernelRfl
namespace Go.Proofs.Ytjlafoimapmjaaa
/- THE CELL 'sum', in the pinned program and in every row, IS THE sha256 OF THE DUMP (.gsa) THAT YtjlafoimapmjaaaProg.lean LOADS. Nothing in Lean hashes anything: it is a label: what it is worth is what the hold of that sum in a sandbox is worth. -/
noncomputable def Try.pinned : Pinned := { name := "ytjlafoimapmjaaa", sum := "f97b72cb06eb9feb8f21d55f45295e952db563080b4e75d6e817b8da399ddb25", checked := Try.checked }
namespace Rows
def none {H : Type} : Left H := { results := [], args := [] }

/-- 'skylightlaw03.WideTells': WHATEVER THE INPUT: true; the input reads as it did. -/
def wideTellsSpec : ChangeSpec := { name := "wideTells", fn := fun _ => fun
  | [d1, d2] => { results := [.lit (.bool true)], args := [d1, d2] }
  | _ => none }
def wideTellsRow : OpenClaim := { program := "ytjlafoimapmjaaa", sum := "f97b72cb06eb9feb8f21d55f45295e952db563080b4e75d6e817b8da399ddb25", func := "skylight/skylightlaw03.WideTells", spec := "wideTells", unfollowed := true, recurses := true, apart := false }
def WideTellsSaid : Prop := wideTellsRow.holds Try.pinned (OpenSpec.ofChange wideTellsSpec)

/-- ITS FALSE NEIGHBOUR: 'it returns false'. Refute it at one input. -/
def wideTellsWrong : ChangeSpec := { name := "wideTells", fn := fun _ => fun
  | [d1, d2] => { results := [.lit (.bool false)], args := [d1, d2] }
  | _ => none }
def WideTellsWrongFalsely : Prop := wideTellsRow.holds Try.pinned (OpenSpec.ofChange wideTellsWrong)

/-- 'skylightlaw03.WideTurns': WHATEVER THE INPUT: true; the input reads as it did. -/
def wideTurnsSpec : ChangeSpec := { name := "wideTurns", fn := fun _ => fun
  | [d1, d2, d3] => { results := [.lit (.bool true)], args := [d1, d2, d3] }
  | _ => none }
def wideTurnsRow : OpenClaim := { program := "ytjlafoimapmjaaa", sum := "f97b72cb06eb9feb8f21d55f45295e952db563080b4e75d6e817b8da399ddb25", func := "skylight/skylightlaw03.WideTurns", spec := "wideTurns", unfollowed := true, recurses := true, apart := false }
def WideTurnsSaid : Prop := wideTurnsRow.holds Try.pinned (OpenSpec.ofChange wideTurnsSpec)

/-- ITS FALSE NEIGHBOUR: 'it returns false'. Refute it at one input. -/
def wideTurnsWrong : ChangeSpec := { name := "wideTurns", fn := fun _ => fun
  | [d1, d2, d3] => { results := [.lit (.bool false)], args := [d1, d2, d3] }
  | _ => none }
def WideTurnsWrongFalsely : Prop := wideTurnsRow.holds Try.pinned (OpenSpec.ofChange wideTurnsWrong)

/-- 'skylightlaw03.WideSpreads': WHATEVER THE INPUT: true; the input reads as it did. -/
def wideSpreadsSpec : ChangeSpec := { name := "wideSpreads", fn := fun _ => fun
  | [d1, d2, d3] => { results := [.lit (.bool true)], args := [d1, d2, d3] }
  | _ => none }
def wideSpreadsRow : OpenClaim := { program := "ytjlafoimapmjaaa", sum := "f97b72cb06eb9feb8f21d55f45295e952db563080b4e75d6e817b8da399ddb25", func := "skylight/skylightlaw03.WideSpreads", spec := "wideSpreads", unfollowed := true, recurses := true, apart := false }
def WideSpreadsSaid : Prop := wideSpreadsRow.holds Try.pinned (OpenSpec.ofChange wideSpreadsSpec)

/-- ITS FALSE NEIGHBOUR: 'it returns false'. Refute it at one input. -/
def wideSpreadsWrong : ChangeSpec := { name := "wideSpreads", fn := fun _ => fun
  | [d1, d2, d3] => { results := [.lit (.bool false)], args := [d1, d2, d3] }
  | _ => none }
def WideSpreadsWrongFalsely : Prop := wideSpreadsRow.holds Try.pinned (OpenSpec.ofChange wideSpreadsWrong)

/-- 'skylightlaw03.WideStays': WHATEVER THE INPUT: true; the input reads as it did. -/
def wideStaysSpec : ChangeSpec := { name := "wideStays", fn := fun _ => fun
  | [d1, d2] => { results := [.lit (.bool true)], args := [d1, d2] }
  | _ => none }
def wideStaysRow : OpenClaim := { program := "ytjlafoimapmjaaa", sum := "f97b72cb06eb9feb8f21d55f45295e952db563080b4e75d6e817b8da399ddb25", func := "skylight/skylightlaw03.WideStays", spec := "wideStays", unfollowed := true, recurses := true, apart := false }
def WideStaysSaid : Prop := wideStaysRow.holds Try.pinned (OpenSpec.ofChange wideStaysSpec)

/-- ITS FALSE NEIGHBOUR: 'it returns false'. Refute it at one input. -/
def wideStaysWrong : ChangeSpec := { name := "wideStays", fn := fun _ => fun
  | [d1, d2] => { results := [.lit (.bool false)], args := [d1, d2] }
  | _ => none }
def WideStaysWrongFalsely : Prop := wideStaysRow.holds Try.pinned (OpenSpec.ofChange wideStaysWrong)

/-- 'skylightlaw03.WideSolves': WHATEVER THE INPUT: true; the input reads as it did. -/
def wideSolvesSpec : ChangeSpec := { name := "wideSolves", fn := fun _ => fun
  | [d1, d2, d3] => { results := [.lit (.bool true)], args := [d1, d2, d3] }
  | _ => none }
def wideSolvesRow : OpenClaim := { program := "ytjlafoimapmjaaa", sum := "f97b72cb06eb9feb8f21d55f45295e952db563080b4e75d6e817b8da399ddb25", func := "skylight/skylightlaw03.WideSolves", spec := "wideSolves", unfollowed := true, recurses := true, apart := false }
def WideSolvesSaid : Prop := wideSolvesRow.holds Try.pinned (OpenSpec.ofChange wideSolvesSpec)

/-- ITS FALSE NEIGHBOUR: 'it returns false'. Refute it at one input. -/
def wideSolvesWrong : ChangeSpec := { name := "wideSolves", fn := fun _ => fun
  | [d1, d2, d3] => { results := [.lit (.bool false)], args := [d1, d2, d3] }
  | _ => none }
def WideSolvesWrongFalsely : Prop := wideSolvesRow.holds Try.pinned (OpenSpec.ofChange wideSolvesWrong)

/-- 'skylightlaw04.HashTells': WHATEVER THE INPUT: true; the input reads as it did. -/
def hashTellsSpec : ChangeSpec := { name := "hashTells", fn := fun _ => fun
  | [d1, d2, d3] => { results := [.lit (.bool true)], args := [d1, d2, d3] }
  | _ => none }
def hashTellsRow : OpenClaim := { program := "ytjlafoimapmjaaa", sum := "f97b72cb06eb9feb8f21d55f45295e952db563080b4e75d6e817b8da399ddb25", func := "skylight/skylightlaw04.HashTells", spec := "hashTells", unfollowed := true, recurses := true, apart := false }
def HashTellsSaid : Prop := hashTellsRow.holds Try.pinned (OpenSpec.ofChange hashTellsSpec)

/-- ITS FALSE NEIGHBOUR: 'it returns false'. Refute it at one input. -/
def hashTellsWrong : ChangeSpec := { name := "hashTells", fn := fun _ => fun
  | [d1, d2, d3] => { results := [.lit (.bool false)], args := [d1, d2, d3] }
  | _ => none }
def HashTellsWrongFalsely : Prop := hashTellsRow.holds Try.pinned (OpenSpec.ofChange hashTellsWrong)

/-- 'skylightlaw04.HashRows': WHATEVER THE INPUT: true; the input reads as it did. -/
def hashRowsSpec : ChangeSpec := { name := "hashRows", fn := fun _ => fun
  | [d1, d2, d3] => { results := [.lit (.bool true)], args := [d1, d2, d3] }
  | _ => none }
def hashRowsRow : OpenClaim := { program := "ytjlafoimapmjaaa", sum := "f97b72cb06eb9feb8f21d55f45295e952db563080b4e75d6e817b8da399ddb25", func := "skylight/skylightlaw04.HashRows", spec := "hashRows", unfollowed := true, recurses := true, apart := false }
def HashRowsSaid : Prop := hashRowsRow.holds Try.pinned (OpenSpec.ofChange hashRowsSpec)

/-- ITS FALSE NEIGHBOUR: 'it returns false'. Refute it at one input. -/
def hashRowsWrong : ChangeSpec := { name := "hashRows", fn := fun _ => fun
  | [d1, d2, d3] => { results := [.lit (.bool false)], args := [d1, d2, d3] }
  | _ => none }
def HashRowsWrongFalsely : Prop := hashRowsRow.holds Try.pinned (OpenSpec.ofChange hashRowsWrong)

/-- 'skylightlaw04.HashWithin': WHATEVER THE INPUT: true; the input reads as it did. -/
def hashWithinSpec : ChangeSpec := { name := "hashWithin", fn := fun _ => fun
  | [d1, d2, d3] => { results := [.lit (.bool true)], args := [d1, d2, d3] }
  | _ => none }
def hashWithinRow : OpenClaim := { program := "ytjlafoimapmjaaa", sum := "f97b72cb06eb9feb8f21d55f45295e952db563080b4e75d6e817b8da399ddb25", func := "skylight/skylightlaw04.HashWithin", spec := "hashWithin", unfollowed := true, recurses := true, apart := false }
def HashWithinSaid : Prop := hashWithinRow.holds Try.pinned (OpenSpec.ofChange hashWithinSpec)

/-- ITS FALSE NEIGHBOUR: 'it returns false'. Refute it at one input. -/
def hashWithinWrong : ChangeSpec := { name := "hashWithin", fn := fun _ => fun
  | [d1, d2, d3] => { results := [.lit (.bool false)], args := [d1, d2, d3] }
  | _ => none }
def HashWithinWrongFalsely : Prop := hashWithinRow.holds Try.pinned (OpenSpec.ofChange hashWithinWrong)

/-- 'skylightlaw04.HashPairs': WHATEVER THE INPUT: true; the input reads as it did. -/
def hashPairsSpec : ChangeSpec := { name := "hashPairs", fn := fun _ => fun
  | [d1, d2] => { results := [.lit (.bool true)], args := [d1, d2] }
  | _ => none }
def hashPairsRow : OpenClaim := { program := "ytjlafoimapmjaaa", sum := "f97b72cb06eb9feb8f21d55f45295e952db563080b4e75d6e817b8da399ddb25", func := "skylight/skylightlaw04.HashPairs", spec := "hashPairs", unfollowed := true, recurses := true, apart := false }
def HashPairsSaid : Prop := hashPairsRow.holds Try.pinned (OpenSpec.ofChange hashPairsSpec)

/-- ITS FALSE NEIGHBOUR: 'it returns false'. Refute it at one input. -/
def hashPairsWrong : ChangeSpec := { name := "hashPairs", fn := fun _ => fun
  | [d1, d2] => { results := [.lit (.bool false)], args := [d1, d2] }
  | _ => none }
def HashPairsWrongFalsely : Prop := hashPairsRow.holds Try.pinned (OpenSpec.ofChange hashPairsWrong)

/-- 'skylightlaw04.HashOne': WHATEVER THE INPUT: true; the input reads as it did. -/
def hashOneSpec : ChangeSpec := { name := "hashOne", fn := fun _ => fun
  | [d1, d2, d3] => { results := [.lit (.bool true)], args := [d1, d2, d3] }
  | _ => none }
def hashOneRow : OpenClaim := { program := "ytjlafoimapmjaaa", sum := "f97b72cb06eb9feb8f21d55f45295e952db563080b4e75d6e817b8da399ddb25", func := "skylight/skylightlaw04.HashOne", spec := "hashOne", unfollowed := true, recurses := true, apart := false }
def HashOneSaid : Prop := hashOneRow.holds Try.pinned (OpenSpec.ofChange hashOneSpec)

/-- ITS FALSE NEIGHBOUR: 'it returns false'. Refute it at one input. -/
def hashOneWrong : ChangeSpec := { name := "hashOne", fn := fun _ => fun
  | [d1, d2, d3] => { results := [.lit (.bool false)], args := [d1, d2, d3] }
  | _ => none }
def HashOneWrongFalsely : Prop := hashOneRow.holds Try.pinned (OpenSpec.ofChange hashOneWrong)

/- THE SECOND FORM. 'bulk': how many values and letters a reading holds, each counted each time it is reached (what is shared counts as often as it is met; a slice's spare places count too). A statement '..UptoSaid' is the law's where the arguments, and the package variables that the reading takes, are together of bulk at most 1048576: NARROWER than '..Said'. Prove '..Said' where nothing that the law and all that it calls make is longer than what came in: it says more and counts as full. Else prove '..UptoSaid'. A law counts once. -/
mutual
def uptoBulk {H : Type} : DataW H → Nat
  | .lit (.string bytes) => bytes.length + 1
  | .lit _ => 1
  | .nil => 1
  | .ptr d => uptoBulk d + 1
  | .slice elems spare => uptoBulkAll elems + uptoBulkAll spare + 1
  | .agg parts => uptoBulkAll parts + 1
  | .iface _ d => uptoBulk d + 1
  | .map entries => uptoBulkEntries entries + 1
  | .held _ => 1
def uptoBulkAll {H : Type} : List (DataW H) → Nat
  | [] => 0
  | d :: r => uptoBulk d + uptoBulkAll r
def uptoBulkEntries {H : Type} : List (Lit × DataW H) → Nat
  | [] => 0
  | x :: r => uptoBulkEntry x + uptoBulkEntries r
def uptoBulkEntry {H : Type} : Lit × DataW H → Nat
  | (.string bytes, d) => bytes.length + uptoBulk d + 1
  | (_, d) => uptoBulk d + 1
 end
def uptoSmall : (H : Type) → List (DataW H) → Bool := fun _ ds => decide (uptoBulkAll ds ≤ 1048576)
def OpenSpec.upto (s : _root_.Go.ChangeSpec) : _root_.Go.OpenSpec := { _root_.Go.OpenSpec.ofChange s with cond := some uptoSmall }

/-- 'skylightlaw03.WideTells', WHERE WHAT IT READS IS OF BULK AT MOST 1048576: true; the input reads as it did. -/
def wideTellsUptoRow : OpenClaim := { program := "ytjlafoimapmjaaa", sum := "f97b72cb06eb9feb8f21d55f45295e952db563080b4e75d6e817b8da399ddb25", func := "skylight/skylightlaw03.WideTells", spec := "wideTells", unfollowed := true, recurses := true, apart := false, narrowed := true }
def WideTellsUptoSaid : Prop := wideTellsUptoRow.holds Try.pinned (OpenSpec.upto wideTellsSpec)

/-- 'skylightlaw03.WideTurns', WHERE WHAT IT READS IS OF BULK AT MOST 1048576: true; the input reads as it did. -/
def wideTurnsUptoRow : OpenClaim := { program := "ytjlafoimapmjaaa", sum := "f97b72cb06eb9feb8f21d55f45295e952db563080b4e75d6e817b8da399ddb25", func := "skylight/skylightlaw03.WideTurns", spec := "wideTurns", unfollowed := true, recurses := true, apart := false, narrowed := true }
def WideTurnsUptoSaid : Prop := wideTurnsUptoRow.holds Try.pinned (OpenSpec.upto wideTurnsSpec)

/-- 'skylightlaw03.WideSpreads', WHERE WHAT IT READS IS OF BULK AT MOST 1048576: true; the input reads as it did. -/
def wideSpreadsUptoRow : OpenClaim := { program := "ytjlafoimapmjaaa", sum := "f97b72cb06eb9feb8f21d55f45295e952db563080b4e75d6e817b8da399ddb25", func := "skylight/skylightlaw03.WideSpreads", spec := "wideSpreads", unfollowed := true, recurses := true, apart := false, narrowed := true }
def WideSpreadsUptoSaid : Prop := wideSpreadsUptoRow.holds Try.pinned (OpenSpec.upto wideSpreadsSpec)

/-- 'skylightlaw03.WideStays', WHERE WHAT IT READS IS OF BULK AT MOST 1048576: true; the input reads as it did. -/
def wideStaysUptoRow : OpenClaim := { program := "ytjlafoimapmjaaa", sum := "f97b72cb06eb9feb8f21d55f45295e952db563080b4e75d6e817b8da399ddb25", func := "skylight/skylightlaw03.WideStays", spec := "wideStays", unfollowed := true, recurses := true, apart := false, narrowed := true }
def WideStaysUptoSaid : Prop := wideStaysUptoRow.holds Try.pinned (OpenSpec.upto wideStaysSpec)

/-- 'skylightlaw03.WideSolves', WHERE WHAT IT READS IS OF BULK AT MOST 1048576: true; the input reads as it did. -/
def wideSolvesUptoRow : OpenClaim := { program := "ytjlafoimapmjaaa", sum := "f97b72cb06eb9feb8f21d55f45295e952db563080b4e75d6e817b8da399ddb25", func := "skylight/skylightlaw03.WideSolves", spec := "wideSolves", unfollowed := true, recurses := true, apart := false, narrowed := true }
def WideSolvesUptoSaid : Prop := wideSolvesUptoRow.holds Try.pinned (OpenSpec.upto wideSolvesSpec)

/-- 'skylightlaw04.HashTells', WHERE WHAT IT READS IS OF BULK AT MOST 1048576: true; the input reads as it did. -/
def hashTellsUptoRow : OpenClaim := { program := "ytjlafoimapmjaaa", sum := "f97b72cb06eb9feb8f21d55f45295e952db563080b4e75d6e817b8da399ddb25", func := "skylight/skylightlaw04.HashTells", spec := "hashTells", unfollowed := true, recurses := true, apart := false, narrowed := true }
def HashTellsUptoSaid : Prop := hashTellsUptoRow.holds Try.pinned (OpenSpec.upto hashTellsSpec)

/-- 'skylightlaw04.HashRows', WHERE WHAT IT READS IS OF BULK AT MOST 1048576: true; the input reads as it did. -/
def hashRowsUptoRow : OpenClaim := { program := "ytjlafoimapmjaaa", sum := "f97b72cb06eb9feb8f21d55f45295e952db563080b4e75d6e817b8da399ddb25", func := "skylight/skylightlaw04.HashRows", spec := "hashRows", unfollowed := true, recurses := true, apart := false, narrowed := true }
def HashRowsUptoSaid : Prop := hashRowsUptoRow.holds Try.pinned (OpenSpec.upto hashRowsSpec)

/-- 'skylightlaw04.HashWithin', WHERE WHAT IT READS IS OF BULK AT MOST 1048576: true; the input reads as it did. -/
def hashWithinUptoRow : OpenClaim := { program := "ytjlafoimapmjaaa", sum := "f97b72cb06eb9feb8f21d55f45295e952db563080b4e75d6e817b8da399ddb25", func := "skylight/skylightlaw04.HashWithin", spec := "hashWithin", unfollowed := true, recurses := true, apart := false, narrowed := true }
def HashWithinUptoSaid : Prop := hashWithinUptoRow.holds Try.pinned (OpenSpec.upto hashWithinSpec)

/-- 'skylightlaw04.HashPairs', WHERE WHAT IT READS IS OF BULK AT MOST 1048576: true; the input reads as it did. -/
def hashPairsUptoRow : OpenClaim := { program := "ytjlafoimapmjaaa", sum := "f97b72cb06eb9feb8f21d55f45295e952db563080b4e75d6e817b8da399ddb25", func := "skylight/skylightlaw04.HashPairs", spec := "hashPairs", unfollowed := true, recurses := true, apart := false, narrowed := true }
def HashPairsUptoSaid : Prop := hashPairsUptoRow.holds Try.pinned (OpenSpec.upto hashPairsSpec)

/-- 'skylightlaw04.HashOne', WHERE WHAT IT READS IS OF BULK AT MOST 1048576: true; the input reads as it did. -/
def hashOneUptoRow : OpenClaim := { program := "ytjlafoimapmjaaa", sum := "f97b72cb06eb9feb8f21d55f45295e952db563080b4e75d6e817b8da399ddb25", func := "skylight/skylightlaw04.HashOne", spec := "hashOne", unfollowed := true, recurses := true, apart := false, narrowed := true }
def HashOneUptoSaid : Prop := hashOneUptoRow.holds Try.pinned (OpenSpec.upto hashOneSpec)

end Rows
end Go.Proofs.Ytjlafoimapmjaaa
