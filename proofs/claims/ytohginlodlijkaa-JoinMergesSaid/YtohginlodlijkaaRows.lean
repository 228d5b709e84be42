/-
  No cell of these rows narrows 'for every input' (looked for: loops, veiled, ifaces, maps, wideKeys, modest, calm, conditions, laid).
  DERIVED. THE GIVEN ROWS OF THIS SEAT. 10 by the template 'for every input the law returns true; each argument reads behind the call as it read before'; 0 by the template 'total and deterministic' (their statements: YtohginlodlijkaaTotals.lean).
  GIVEN WITH THE SEED: the statements are not yours to turn. If you find one false, say at which input.
  Laid BY PROGRAM, IN A SANDBOX (cutbox-rows.mjs): the forced cells as the released guide's own fill.sh prints them over the translation 594a71af0b8ad938… (all of the seat's roots in one cut). By AI agents, Wed Nov 11 2026. No macro, syntax, notation, axiom, sorry.
-/
import Derived.Test.YtohginlodlijkaaChecked
import GoSem.Claim
import GoSem.ClaimJoined
import GoSem.ClaimMapViews
import Derived.JoinedTies
import Derived.KernelRfl
namespace Go.Proofs.Ytohginlodlijkaa
/- THE CELL 'sum', in the pinned program and in every row, IS THE sha256 OF THE DUMP (.gsa) THAT YtohginlodlijkaaProg.lean LOADS. Nothing in Lean hashes anything: it is a label: what it is worth is what the hold of that sum in a sandbox is worth. -/
noncomputable def Try.pinned : Pinned := { name := "ytohginlodlijkaa", sum := "594a71af0b8ad93854f511f324c4cb797db22df05f1a75b8c72c96140915721f", checked := Try.checked }
namespace Rows
def none {H : Type} : Left H := { results := [], args := [] }

/-- 'skylightlaw18.JoinMerges': WHATEVER THE INPUT: true; the input reads as it did. -/
def joinMergesSpec : ChangeSpec := { name := "joinMerges", fn := fun _ => fun
  | [d1, d2] => { results := [.lit (.bool true)], args := [d1, d2] }
  | _ => none }
def joinMergesRow : OpenClaim := { program := "ytohginlodlijkaa", sum := "594a71af0b8ad93854f511f324c4cb797db22df05f1a75b8c72c96140915721f", func := "skylight/skylightlaw18.JoinMerges", spec := "joinMerges", unfollowed := true, recurses := true, apart := false }
def JoinMergesSaid : Prop := joinMergesRow.holds Try.pinned (OpenSpec.ofChange joinMergesSpec)

/-- ITS FALSE NEIGHBOUR: 'it returns false'. Refute it at one input. -/
def joinMergesWrong : ChangeSpec := { name := "joinMerges", fn := fun _ => fun
  | [d1, d2] => { results := [.lit (.bool false)], args := [d1, d2] }
  | _ => none }
def JoinMergesWrongFalsely : Prop := joinMergesRow.holds Try.pinned (OpenSpec.ofChange joinMergesWrong)

/-- 'skylightlaw18.JoinTurns': WHATEVER THE INPUT: true; the input reads as it did. -/
def joinTurnsSpec : ChangeSpec := { name := "joinTurns", fn := fun _ => fun
  | [d1, d2, d3] => { results := [.lit (.bool true)], args := [d1, d2, d3] }
  | _ => none }
def joinTurnsRow : OpenClaim := { program := "ytohginlodlijkaa", sum := "594a71af0b8ad93854f511f324c4cb797db22df05f1a75b8c72c96140915721f", func := "skylight/skylightlaw18.JoinTurns", spec := "joinTurns", unfollowed := true, recurses := true, apart := false }
def JoinTurnsSaid : Prop := joinTurnsRow.holds Try.pinned (OpenSpec.ofChange joinTurnsSpec)

/-- ITS FALSE NEIGHBOUR: 'it returns false'. Refute it at one input. -/
def joinTurnsWrong : ChangeSpec := { name := "joinTurns", fn := fun _ => fun
  | [d1, d2, d3] => { results := [.lit (.bool false)], args := [d1, d2, d3] }
  | _ => none }
def JoinTurnsWrongFalsely : Prop := joinTurnsRow.holds Try.pinned (OpenSpec.ofChange joinTurnsWrong)

/-- 'skylightlaw18.JoinFinds': WHATEVER THE INPUT: true; the input reads as it did. -/
def joinFindsSpec : ChangeSpec := { name := "joinFinds", fn := fun _ => fun
  | [d1, d2] => { results := [.lit (.bool true)], args := [d1, d2] }
  | _ => none }
def joinFindsRow : OpenClaim := { program := "ytohginlodlijkaa", sum := "594a71af0b8ad93854f511f324c4cb797db22df05f1a75b8c72c96140915721f", func := "skylight/skylightlaw18.JoinFinds", spec := "joinFinds", unfollowed := true, recurses := true, apart := false }
def JoinFindsSaid : Prop := joinFindsRow.holds Try.pinned (OpenSpec.ofChange joinFindsSpec)

/-- ITS FALSE NEIGHBOUR: 'it returns false'. Refute it at one input. -/
def joinFindsWrong : ChangeSpec := { name := "joinFinds", fn := fun _ => fun
  | [d1, d2] => { results := [.lit (.bool false)], args := [d1, d2] }
  | _ => none }
def JoinFindsWrongFalsely : Prop := joinFindsRow.holds Try.pinned (OpenSpec.ofChange joinFindsWrong)

/-- 'skylightlaw18.JoinSums': WHATEVER THE INPUT: true; the input reads as it did. -/
def joinSumsSpec : ChangeSpec := { name := "joinSums", fn := fun _ => fun
  | [d1, d2] => { results := [.lit (.bool true)], args := [d1, d2] }
  | _ => none }
def joinSumsRow : OpenClaim := { program := "ytohginlodlijkaa", sum := "594a71af0b8ad93854f511f324c4cb797db22df05f1a75b8c72c96140915721f", func := "skylight/skylightlaw18.JoinSums", spec := "joinSums", unfollowed := true, recurses := true, apart := false }
def JoinSumsSaid : Prop := joinSumsRow.holds Try.pinned (OpenSpec.ofChange joinSumsSpec)

/-- ITS FALSE NEIGHBOUR: 'it returns false'. Refute it at one input. -/
def joinSumsWrong : ChangeSpec := { name := "joinSums", fn := fun _ => fun
  | [d1, d2] => { results := [.lit (.bool false)], args := [d1, d2] }
  | _ => none }
def JoinSumsWrongFalsely : Prop := joinSumsRow.holds Try.pinned (OpenSpec.ofChange joinSumsWrong)

/-- 'skylightlaw17.HeavyPlays': WHATEVER THE INPUT: true; the input reads as it did. -/
def heavyPlaysSpec : ChangeSpec := { name := "heavyPlays", fn := fun _ => fun
  | [d1, d2] => { results := [.lit (.bool true)], args := [d1, d2] }
  | _ => none }
def heavyPlaysRow : OpenClaim := { program := "ytohginlodlijkaa", sum := "594a71af0b8ad93854f511f324c4cb797db22df05f1a75b8c72c96140915721f", func := "skylight/skylightlaw17.HeavyPlays", spec := "heavyPlays", unfollowed := true, recurses := true, apart := false }
def HeavyPlaysSaid : Prop := heavyPlaysRow.holds Try.pinned (OpenSpec.ofChange heavyPlaysSpec)

/-- ITS FALSE NEIGHBOUR: 'it returns false'. Refute it at one input. -/
def heavyPlaysWrong : ChangeSpec := { name := "heavyPlays", fn := fun _ => fun
  | [d1, d2] => { results := [.lit (.bool false)], args := [d1, d2] }
  | _ => none }
def HeavyPlaysWrongFalsely : Prop := heavyPlaysRow.holds Try.pinned (OpenSpec.ofChange heavyPlaysWrong)

/-- 'skylightlaw17.HeavyMay': WHATEVER THE INPUT: true; the input reads as it did. -/
def heavyMaySpec : ChangeSpec := { name := "heavyMay", fn := fun _ => fun
  | [d1, d2] => { results := [.lit (.bool true)], args := [d1, d2] }
  | _ => none }
def heavyMayRow : OpenClaim := { program := "ytohginlodlijkaa", sum := "594a71af0b8ad93854f511f324c4cb797db22df05f1a75b8c72c96140915721f", func := "skylight/skylightlaw17.HeavyMay", spec := "heavyMay", unfollowed := true, recurses := true, apart := false }
def HeavyMaySaid : Prop := heavyMayRow.holds Try.pinned (OpenSpec.ofChange heavyMaySpec)

/-- ITS FALSE NEIGHBOUR: 'it returns false'. Refute it at one input. -/
def heavyMayWrong : ChangeSpec := { name := "heavyMay", fn := fun _ => fun
  | [d1, d2] => { results := [.lit (.bool false)], args := [d1, d2] }
  | _ => none }
def HeavyMayWrongFalsely : Prop := heavyMayRow.holds Try.pinned (OpenSpec.ofChange heavyMayWrong)

/-- 'skylightlaw17.HeavyBound': WHATEVER THE INPUT: true; the input reads as it did. -/
def heavyBoundSpec : ChangeSpec := { name := "heavyBound", fn := fun _ => fun
  | [d1, d2, d3] => { results := [.lit (.bool true)], args := [d1, d2, d3] }
  | _ => none }
def heavyBoundRow : OpenClaim := { program := "ytohginlodlijkaa", sum := "594a71af0b8ad93854f511f324c4cb797db22df05f1a75b8c72c96140915721f", func := "skylight/skylightlaw17.HeavyBound", spec := "heavyBound", unfollowed := true, recurses := true, apart := false }
def HeavyBoundSaid : Prop := heavyBoundRow.holds Try.pinned (OpenSpec.ofChange heavyBoundSpec)

/-- ITS FALSE NEIGHBOUR: 'it returns false'. Refute it at one input. -/
def heavyBoundWrong : ChangeSpec := { name := "heavyBound", fn := fun _ => fun
  | [d1, d2, d3] => { results := [.lit (.bool false)], args := [d1, d2, d3] }
  | _ => none }
def HeavyBoundWrongFalsely : Prop := heavyBoundRow.holds Try.pinned (OpenSpec.ofChange heavyBoundWrong)

/-- 'skylightlaw17.HeavyFinds': WHATEVER THE INPUT: true; the input reads as it did. -/
def heavyFindsSpec : ChangeSpec := { name := "heavyFinds", fn := fun _ => fun
  | [d1, d2] => { results := [.lit (.bool true)], args := [d1, d2] }
  | _ => none }
def heavyFindsRow : OpenClaim := { program := "ytohginlodlijkaa", sum := "594a71af0b8ad93854f511f324c4cb797db22df05f1a75b8c72c96140915721f", func := "skylight/skylightlaw17.HeavyFinds", spec := "heavyFinds", unfollowed := true, recurses := true, apart := false }
def HeavyFindsSaid : Prop := heavyFindsRow.holds Try.pinned (OpenSpec.ofChange heavyFindsSpec)

/-- ITS FALSE NEIGHBOUR: 'it returns false'. Refute it at one input. -/
def heavyFindsWrong : ChangeSpec := { name := "heavyFinds", fn := fun _ => fun
  | [d1, d2] => { results := [.lit (.bool false)], args := [d1, d2] }
  | _ => none }
def HeavyFindsWrongFalsely : Prop := heavyFindsRow.holds Try.pinned (OpenSpec.ofChange heavyFindsWrong)

/-- 'skylightlaw17.HeavyFew': WHATEVER THE INPUT: true; the input reads as it did. -/
def heavyFewSpec : ChangeSpec := { name := "heavyFew", fn := fun _ => fun
  | [d1, d2] => { results := [.lit (.bool true)], args := [d1, d2] }
  | _ => none }
def heavyFewRow : OpenClaim := { program := "ytohginlodlijkaa", sum := "594a71af0b8ad93854f511f324c4cb797db22df05f1a75b8c72c96140915721f", func := "skylight/skylightlaw17.HeavyFew", spec := "heavyFew", unfollowed := true, recurses := true, apart := false }
def HeavyFewSaid : Prop := heavyFewRow.holds Try.pinned (OpenSpec.ofChange heavyFewSpec)

/-- ITS FALSE NEIGHBOUR: 'it returns false'. Refute it at one input. -/
def heavyFewWrong : ChangeSpec := { name := "heavyFew", fn := fun _ => fun
  | [d1, d2] => { results := [.lit (.bool false)], args := [d1, d2] }
  | _ => none }
def HeavyFewWrongFalsely : Prop := heavyFewRow.holds Try.pinned (OpenSpec.ofChange heavyFewWrong)

/-- 'skylightlaw18.JoinBound': WHATEVER THE INPUT: true; the input reads as it did. -/
def joinBoundSpec : ChangeSpec := { name := "joinBound", fn := fun _ => fun
  | [d1, d2, d3] => { results := [.lit (.bool true)], args := [d1, d2, d3] }
  | _ => none }
def joinBoundRow : OpenClaim := { program := "ytohginlodlijkaa", sum := "594a71af0b8ad93854f511f324c4cb797db22df05f1a75b8c72c96140915721f", func := "skylight/skylightlaw18.JoinBound", spec := "joinBound", unfollowed := true, recurses := true, apart := false }
def JoinBoundSaid : Prop := joinBoundRow.holds Try.pinned (OpenSpec.ofChange joinBoundSpec)

/-- ITS FALSE NEIGHBOUR: 'it returns false'. Refute it at one input. -/
def joinBoundWrong : ChangeSpec := { name := "joinBound", fn := fun _ => fun
  | [d1, d2, d3] => { results := [.lit (.bool false)], args := [d1, d2, d3] }
  | _ => none }
def JoinBoundWrongFalsely : Prop := joinBoundRow.holds Try.pinned (OpenSpec.ofChange joinBoundWrong)

/- THE SECOND FORM. 'bulk': how many values and letters a reading holds, each counted each time it is reached (what is shared counts as often as it is met; a slice's spare places count too). A statement '..UptoSaid' is the law's where the arguments, and the package variables that the reading takes, are together of bulk at most 1048576: NARROWER than '..Said'. Prove '..Said' where nothing that the law and all that it calls make is longer than what came in: it says more and counts as full. Else prove '..UptoSaid'. A law counts once. -/
mutual
def uptoBulk {H : Type} : DataW H → Nat
  | .lit (.string bytes) => bytes.length + 1
  | .lit _ => 1
  | .nil => 1
  | .ptr d => uptoBulk d + 1
  | .slice elems spare => uptoBulkAll elems + uptoBulkAll spare + 1
  | .agg parts => uptoBulkAll parts + 1
  | .iface _ d => uptoBulk d + 1
  | .map entries => uptoBulkEntries entries + 1
  | .held _ => 1
def uptoBulkAll {H : Type} : List (DataW H) → Nat
  | [] => 0
  | d :: r => uptoBulk d + uptoBulkAll r
def uptoBulkEntries {H : Type} : List (Lit × DataW H) → Nat
  | [] => 0
  | x :: r => uptoBulkEntry x + uptoBulkEntries r
def uptoBulkEntry {H : Type} : Lit × DataW H → Nat
  | (.string bytes, d) => bytes.length + uptoBulk d + 1
  | (_, d) => uptoBulk d + 1
 end
def uptoSmall : (H : Type) → List (DataW H) → Bool := fun _ ds => decide (uptoBulkAll ds ≤ 1048576)
def OpenSpec.upto (s : _root_.Go.ChangeSpec) : _root_.Go.OpenSpec := { _root_.Go.OpenSpec.ofChange s with cond := some uptoSmall }

/-- 'skylightlaw18.JoinMerges', WHERE WHAT IT READS IS OF BULK AT MOST 1048576: true; the input reads as it did. -/
def joinMergesUptoRow : OpenClaim := { program := "ytohginlodlijkaa", sum := "594a71af0b8ad93854f511f324c4cb797db22df05f1a75b8c72c96140915721f", func := "skylight/skylightlaw18.JoinMerges", spec := "joinMerges", unfollowed := true, recurses := true, apart := false, narrowed := true }
def JoinMergesUptoSaid : Prop := joinMergesUptoRow.holds Try.pinned (OpenSpec.upto joinMergesSpec)

/-- 'skylightlaw18.JoinTurns', WHERE WHAT IT READS IS OF BULK AT MOST 1048576: true; the input reads as it did. -/
def joinTurnsUptoRow : OpenClaim := { program := "ytohginlodlijkaa", sum := "594a71af0b8ad93854f511f324c4cb797db22df05f1a75b8c72c96140915721f", func := "skylight/skylightlaw18.JoinTurns", spec := "joinTurns", unfollowed := true, recurses := true, apart := false, narrowed := true }
def JoinTurnsUptoSaid : Prop := joinTurnsUptoRow.holds Try.pinned (OpenSpec.upto joinTurnsSpec)

/-- 'skylightlaw18.JoinFinds', WHERE WHAT IT READS IS OF BULK AT MOST 1048576: true; the input reads as it did. -/
def joinFindsUptoRow : OpenClaim := { program := "ytohginlodlijkaa", sum := "594a71af0b8ad93854f511f324c4cb797db22df05f1a75b8c72c96140915721f", func := "skylight/skylightlaw18.JoinFinds", spec := "joinFinds", unfollowed := true, recurses := true, apart := false, narrowed := true }
def JoinFindsUptoSaid : Prop := joinFindsUptoRow.holds Try.pinned (OpenSpec.upto joinFindsSpec)

/-- 'skylightlaw18.JoinSums', WHERE WHAT IT READS IS OF BULK AT MOST 1048576: true; the input reads as it did. -/
def joinSumsUptoRow : OpenClaim := { program := "ytohginlodlijkaa", sum := "594a71af0b8ad93854f511f324c4cb797db22df05f1a75b8c72c96140915721f", func := "skylight/skylightlaw18.JoinSums", spec := "joinSums", unfollowed := true, recurses := true, apart := false, narrowed := true }
def JoinSumsUptoSaid : Prop := joinSumsUptoRow.holds Try.pinned (OpenSpec.upto joinSumsSpec)

/-- 'skylightlaw17.HeavyPlays', WHERE WHAT IT READS IS OF BULK AT MOST 1048576: true; the input reads as it did. -/
def heavyPlaysUptoRow : OpenClaim := { program := "ytohginlodlijkaa", sum := "594a71af0b8ad93854f511f324c4cb797db22df05f1a75b8c72c96140915721f", func := "skylight/skylightlaw17.HeavyPlays", spec := "heavyPlays", unfollowed := true, recurses := true, apart := false, narrowed := true }
def HeavyPlaysUptoSaid : Prop := heavyPlaysUptoRow.holds Try.pinned (OpenSpec.upto heavyPlaysSpec)

/-- 'skylightlaw17.HeavyMay', WHERE WHAT IT READS IS OF BULK AT MOST 1048576: true; the input reads as it did. -/
def heavyMayUptoRow : OpenClaim := { program := "ytohginlodlijkaa", sum := "594a71af0b8ad93854f511f324c4cb797db22df05f1a75b8c72c96140915721f", func := "skylight/skylightlaw17.HeavyMay", spec := "heavyMay", unfollowed := true, recurses := true, apart := false, narrowed := true }
def HeavyMayUptoSaid : Prop := heavyMayUptoRow.holds Try.pinned (OpenSpec.upto heavyMaySpec)

/-- 'skylightlaw17.HeavyBound', WHERE WHAT IT READS IS OF BULK AT MOST 1048576: true; the input reads as it did. -/
def heavyBoundUptoRow : OpenClaim := { program := "ytohginlodlijkaa", sum := "594a71af0b8ad93854f511f324c4cb797db22df05f1a75b8c72c96140915721f", func := "skylight/skylightlaw17.HeavyBound", spec := "heavyBound", unfollowed := true, recurses := true, apart := false, narrowed := true }
def HeavyBoundUptoSaid : Prop := heavyBoundUptoRow.holds Try.pinned (OpenSpec.upto heavyBoundSpec)

/-- 'skylightlaw17.HeavyFinds', WHERE WHAT IT READS IS OF BULK AT MOST 1048576: true; the input reads as it did. -/
def heavyFindsUptoRow : OpenClaim := { program := "ytohginlodlijkaa", sum := "594a71af0b8ad93854f511f324c4cb797db22df05f1a75b8c72c96140915721f", func := "skylight/skylightlaw17.HeavyFinds", spec := "heavyFinds", unfollowed := true, recurses := true, apart := false, narrowed := true }
def HeavyFindsUptoSaid : Prop := heavyFindsUptoRow.holds Try.pinned (OpenSpec.upto heavyFindsSpec)

/-- 'skylightlaw17.HeavyFew', WHERE WHAT IT READS IS OF BULK AT MOST 1048576: true; the input reads as it did. -/
def heavyFewUptoRow : OpenClaim := { program := "ytohginlodlijkaa", sum := "594a71af0b8ad93854f511f324c4cb797db22df05f1a75b8c72c96140915721f", func := "skylight/skylightlaw17.HeavyFew", spec := "heavyFew", unfollowed := true, recurses := true, apart := false, narrowed := true }
def HeavyFewUptoSaid : Prop := heavyFewUptoRow.holds Try.pinned (OpenSpec.upto heavyFewSpec)

/-- 'skylightlaw18.JoinBound', WHERE WHAT IT READS IS OF BULK AT MOST 1048576: true; the input reads as it did. -/
def joinBoundUptoRow : OpenClaim := { program := "ytohginlodlijkaa", sum := "594a71af0b8ad93854f511f324c4cb797db22df05f1a75b8c72c96140915721f", func := "skylight/skylightlaw18.JoinBound", spec := "joinBound", unfollowed := true, recurses := true, apart := false, narrowed := true }
def JoinBoundUptoSaid : Prop := joinBoundUptoRow.holds Try.pinned (OpenSpec.upto joinBoundSpec)

end Rows
end Go.Proofs.Ytohginlodlijkaa
