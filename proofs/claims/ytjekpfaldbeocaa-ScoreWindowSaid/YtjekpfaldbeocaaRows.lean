/-
  No cell of these rows narrows 'for every input' (looked for: loops, veiled, ifaces, maps, wideKeys, modest, calm, conditions, laid).
  DERIVED. THE GIVEN ROWS OF THIS SEAT. 4 by the template 'for every input the law returns true; each argument reads behind the call as it read before'; 0 by the template 'total and deterministic' (their statements: YtjekpfaldbeocaaTotals.lean).
  GIVEN WITH THE SEED: the statements are not yours to turn. If you find one false, say at which input.
  Laid BY PROGRAM, IN A SANDBOX (cutbox-rows.mjs): the forced cells as the released guide's own fill.sh prints them over the translation f4e70e649f402be9… (all of the seat's roots in one cut). By AI agents, Wed Nov 11 2026. No macro, syntax, notation, axiom, sorry.
-/
import Derived.Test.YtjekpfaldbeocaaChecked
import GoSem.Claim
import GoSem.ClaimJoined
import GoSem.ClaimMapViews
import Derived.JoinedTies
import Derived.KernelRfl
namespace Go.Proofs.Ytjekpfaldbeocaa
/- THE CELL 'sum', in the pinned program and in every row, IS THE sha256 OF THE DUMP (.gsa) THAT YtjekpfaldbeocaaProg.lean LOADS. Nothing in Lean hashes anything: it is a label: what it is worth is what the hold of that sum in a sandbox is worth. -/
noncomputable def Try.pinned : Pinned := { name := "ytjekpfaldbeocaa", sum := "f4e70e649f402be96fd0bc8b90602fa50dbf34ac0cc744f30cf40158b536b8fd", checked := Try.checked }
namespace Rows
def none {H : Type} : Left H := { results := [], args := [] }

/-- 'governorlaw17.ScoreWindow': WHATEVER THE INPUT: true; the input reads as it did. -/
def scoreWindowSpec : ChangeSpec := { name := "scoreWindow", fn := fun _ => fun
  | [d1, d2, d3] => { results := [.lit (.bool true)], args := [d1, d2, d3] }
  | _ => none }
def scoreWindowRow : OpenClaim := { program := "ytjekpfaldbeocaa", sum := "f4e70e649f402be96fd0bc8b90602fa50dbf34ac0cc744f30cf40158b536b8fd", func := "governor/governorlaw17.ScoreWindow", spec := "scoreWindow", unfollowed := true, recurses := true, apart := false }
def ScoreWindowSaid : Prop := scoreWindowRow.holds Try.pinned (OpenSpec.ofChange scoreWindowSpec)

/-- ITS FALSE NEIGHBOUR: 'it returns false'. Refute it at one input. -/
def scoreWindowWrong : ChangeSpec := { name := "scoreWindow", fn := fun _ => fun
  | [d1, d2, d3] => { results := [.lit (.bool false)], args := [d1, d2, d3] }
  | _ => none }
def ScoreWindowWrongFalsely : Prop := scoreWindowRow.holds Try.pinned (OpenSpec.ofChange scoreWindowWrong)

/-- 'governorlaw17.ScoreSums': WHATEVER THE INPUT: true; the input reads as it did. -/
def scoreSumsSpec : ChangeSpec := { name := "scoreSums", fn := fun _ => fun
  | [d1, d2] => { results := [.lit (.bool true)], args := [d1, d2] }
  | _ => none }
def scoreSumsRow : OpenClaim := { program := "ytjekpfaldbeocaa", sum := "f4e70e649f402be96fd0bc8b90602fa50dbf34ac0cc744f30cf40158b536b8fd", func := "governor/governorlaw17.ScoreSums", spec := "scoreSums", unfollowed := true, recurses := true, apart := false }
def ScoreSumsSaid : Prop := scoreSumsRow.holds Try.pinned (OpenSpec.ofChange scoreSumsSpec)

/-- ITS FALSE NEIGHBOUR: 'it returns false'. Refute it at one input. -/
def scoreSumsWrong : ChangeSpec := { name := "scoreSums", fn := fun _ => fun
  | [d1, d2] => { results := [.lit (.bool false)], args := [d1, d2] }
  | _ => none }
def ScoreSumsWrongFalsely : Prop := scoreSumsRow.holds Try.pinned (OpenSpec.ofChange scoreSumsWrong)

/-- 'governorlaw17.ScoreMargin': WHATEVER THE INPUT: true; the input reads as it did. -/
def scoreMarginSpec : ChangeSpec := { name := "scoreMargin", fn := fun _ => fun
  | [d1, d2, d3, d4, d5] => { results := [.lit (.bool true)], args := [d1, d2, d3, d4, d5] }
  | _ => none }
def scoreMarginRow : OpenClaim := { program := "ytjekpfaldbeocaa", sum := "f4e70e649f402be96fd0bc8b90602fa50dbf34ac0cc744f30cf40158b536b8fd", func := "governor/governorlaw17.ScoreMargin", spec := "scoreMargin", unfollowed := true, recurses := true, apart := false }
def ScoreMarginSaid : Prop := scoreMarginRow.holds Try.pinned (OpenSpec.ofChange scoreMarginSpec)

/-- ITS FALSE NEIGHBOUR: 'it returns false'. Refute it at one input. -/
def scoreMarginWrong : ChangeSpec := { name := "scoreMargin", fn := fun _ => fun
  | [d1, d2, d3, d4, d5] => { results := [.lit (.bool false)], args := [d1, d2, d3, d4, d5] }
  | _ => none }
def ScoreMarginWrongFalsely : Prop := scoreMarginRow.holds Try.pinned (OpenSpec.ofChange scoreMarginWrong)

/-- 'governorlaw17.ScoreShort': WHATEVER THE INPUT: true; the input reads as it did. -/
def scoreShortSpec : ChangeSpec := { name := "scoreShort", fn := fun _ => fun
  | [d1, d2, d3] => { results := [.lit (.bool true)], args := [d1, d2, d3] }
  | _ => none }
def scoreShortRow : OpenClaim := { program := "ytjekpfaldbeocaa", sum := "f4e70e649f402be96fd0bc8b90602fa50dbf34ac0cc744f30cf40158b536b8fd", func := "governor/governorlaw17.ScoreShort", spec := "scoreShort", unfollowed := true, recurses := true, apart := false }
def ScoreShortSaid : Prop := scoreShortRow.holds Try.pinned (OpenSpec.ofChange scoreShortSpec)

/-- ITS FALSE NEIGHBOUR: 'it returns false'. Refute it at one input. -/
def scoreShortWrong : ChangeSpec := { name := "scoreShort", fn := fun _ => fun
  | [d1, d2, d3] => { results := [.lit (.bool false)], args := [d1, d2, d3] }
  | _ => none }
def ScoreShortWrongFalsely : Prop := scoreShortRow.holds Try.pinned (OpenSpec.ofChange scoreShortWrong)

/- THE SECOND FORM. 'bulk': how many values and letters a reading holds, each counted each time it is reached (what is shared counts as often as it is met; a slice's spare places count too). A statement '..UptoSaid' is the law's where the arguments, and the package variables that the reading takes, are together of bulk at most 1048576: NARROWER than '..Said'. Prove '..Said' where nothing that the law and all that it calls make is longer than what came in: it says more and counts as full. Else prove '..UptoSaid'. A law counts once. -/
mutual
def uptoBulk {H : Type} : DataW H → Nat
  | .lit (.string bytes) => bytes.length + 1
  | .lit _ => 1
  | .nil => 1
  | .ptr d => uptoBulk d + 1
  | .slice elems spare => uptoBulkAll elems + uptoBulkAll spare + 1
  | .agg parts => uptoBulkAll parts + 1
  | .iface _ d => uptoBulk d + 1
  | .map entries => uptoBulkEntries entries + 1
  | .held _ => 1
def uptoBulkAll {H : Type} : List (DataW H) → Nat
  | [] => 0
  | d :: r => uptoBulk d + uptoBulkAll r
def uptoBulkEntries {H : Type} : List (Lit × DataW H) → Nat
  | [] => 0
  | x :: r => uptoBulkEntry x + uptoBulkEntries r
def uptoBulkEntry {H : Type} : Lit × DataW H → Nat
  | (.string bytes, d) => bytes.length + uptoBulk d + 1
  | (_, d) => uptoBulk d + 1
 end
def uptoSmall : (H : Type) → List (DataW H) → Bool := fun _ ds => decide (uptoBulkAll ds ≤ 1048576)
def OpenSpec.upto (s : _root_.Go.ChangeSpec) : _root_.Go.OpenSpec := { _root_.Go.OpenSpec.ofChange s with cond := some uptoSmall }

/-- 'governorlaw17.ScoreWindow', WHERE WHAT IT READS IS OF BULK AT MOST 1048576: true; the input reads as it did. -/
def scoreWindowUptoRow : OpenClaim := { program := "ytjekpfaldbeocaa", sum := "f4e70e649f402be96fd0bc8b90602fa50dbf34ac0cc744f30cf40158b536b8fd", func := "governor/governorlaw17.ScoreWindow", spec := "scoreWindow", unfollowed := true, recurses := true, apart := false, narrowed := true }
def ScoreWindowUptoSaid : Prop := scoreWindowUptoRow.holds Try.pinned (OpenSpec.upto scoreWindowSpec)

/-- 'governorlaw17.ScoreSums', WHERE WHAT IT READS IS OF BULK AT MOST 1048576: true; the input reads as it did. -/
def scoreSumsUptoRow : OpenClaim := { program := "ytjekpfaldbeocaa", sum := "f4e70e649f402be96fd0bc8b90602fa50dbf34ac0cc744f30cf40158b536b8fd", func := "governor/governorlaw17.ScoreSums", spec := "scoreSums", unfollowed := true, recurses := true, apart := false, narrowed := true }
def ScoreSumsUptoSaid : Prop := scoreSumsUptoRow.holds Try.pinned (OpenSpec.upto scoreSumsSpec)

/-- 'governorlaw17.ScoreMargin', WHERE WHAT IT READS IS OF BULK AT MOST 1048576: true; the input reads as it did. -/
def scoreMarginUptoRow : OpenClaim := { program := "ytjekpfaldbeocaa", sum := "f4e70e649f402be96fd0bc8b90602fa50dbf34ac0cc744f30cf40158b536b8fd", func := "governor/governorlaw17.ScoreMargin", spec := "scoreMargin", unfollowed := true, recurses := true, apart := false, narrowed := true }
def ScoreMarginUptoSaid : Prop := scoreMarginUptoRow.holds Try.pinned (OpenSpec.upto scoreMarginSpec)

/-- 'governorlaw17.ScoreShort', WHERE WHAT IT READS IS OF BULK AT MOST 1048576: true; the input reads as it did. -/
def scoreShortUptoRow : OpenClaim := { program := "ytjekpfaldbeocaa", sum := "f4e70e649f402be96fd0bc8b90602fa50dbf34ac0cc744f30cf40158b536b8fd", func := "governor/governorlaw17.ScoreShort", spec := "scoreShort", unfollowed := true, recurses := true, apart := false, narrowed := true }
def ScoreShortUptoSaid : Prop := scoreShortUptoRow.holds Try.pinned (OpenSpec.upto scoreShortSpec)

end Rows
end Go.Proofs.Ytjekpfaldbeocaa
