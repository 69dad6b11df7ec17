/-
  No cell of these rows narrows 'for every input' (looked for: loops, veiled, ifaces, maps, wideKeys, modest, calm, conditions, laid).
  DERIVED. THE GIVEN ROWS OF THIS SEAT. 5 by the template 'for every input the law returns true; each argument reads behind the call as it read before'; 0 by the template 'total and deterministic' (their statements: YtlenanfkphglaaaTotals.lean).
  GIVEN WITH THE SEED: the statements are not yours to turn. If you find one false, say at which input.
  Laid BY PROGRAM, IN A SANDBOX (cutbox-rows.mjs): the forced cells as the released guide's own fill.sh prints them over the translation 15c73ba3eb8ae448… (all of the seat's roots in one cut). By AI agents, Wed Nov 11 2026. No macro, syntax, notation, axiom, sorry.
-/
import Derived.Test.YtlenanfkphglaaaChecked
import GoSem.Claim
import GoSem.ClaimJoined
import GoSem.ClaimMapViews
import Derived.JoinedTies
import Derived.KernelRfl
namespace Go.Proofs.Ytlenanfkphglaaa
/- THE CELL 'sum', in the pinned program and in every row, IS THE sha256 OF THE DUMP (.gsa) THAT YtlenanfkphglaaaProg.lean LOADS. Nothing in Lean hashes anything: it is a label: what it is worth is what the hold of that sum in a sandbox is worth. -/
noncomputable def Try.pinned : Pinned := { name := "ytlenanfkphglaaa", sum := "15c73ba3eb8ae448a9acb01cd26f9cc7d411312003ff2020a87df6ca22affbe1", checked := Try.checked }
namespace Rows
def none {H : Type} : Left H := { results := [], args := [] }

/-- 'governorlaw19.PromoteTells': WHATEVER THE INPUT: true; the input reads as it did. -/
def promoteTellsSpec : ChangeSpec := { name := "promoteTells", fn := fun _ => fun
  | [d1, d2, d3] => { results := [.lit (.bool true)], args := [d1, d2, d3] }
  | _ => none }
def promoteTellsRow : OpenClaim := { program := "ytlenanfkphglaaa", sum := "15c73ba3eb8ae448a9acb01cd26f9cc7d411312003ff2020a87df6ca22affbe1", func := "governor/governorlaw19.PromoteTells", spec := "promoteTells", unfollowed := true, recurses := true, apart := false }
def PromoteTellsSaid : Prop := promoteTellsRow.holds Try.pinned (OpenSpec.ofChange promoteTellsSpec)

/-- ITS FALSE NEIGHBOUR: 'it returns false'. Refute it at one input. -/
def promoteTellsWrong : ChangeSpec := { name := "promoteTells", fn := fun _ => fun
  | [d1, d2, d3] => { results := [.lit (.bool false)], args := [d1, d2, d3] }
  | _ => none }
def PromoteTellsWrongFalsely : Prop := promoteTellsRow.holds Try.pinned (OpenSpec.ofChange promoteTellsWrong)

/-- 'governorlaw19.PromoteGuard': WHATEVER THE INPUT: true; the input reads as it did. -/
def promoteGuardSpec : ChangeSpec := { name := "promoteGuard", fn := fun _ => fun
  | [d1, d2, d3] => { results := [.lit (.bool true)], args := [d1, d2, d3] }
  | _ => none }
def promoteGuardRow : OpenClaim := { program := "ytlenanfkphglaaa", sum := "15c73ba3eb8ae448a9acb01cd26f9cc7d411312003ff2020a87df6ca22affbe1", func := "governor/governorlaw19.PromoteGuard", spec := "promoteGuard", unfollowed := true, recurses := true, apart := false }
def PromoteGuardSaid : Prop := promoteGuardRow.holds Try.pinned (OpenSpec.ofChange promoteGuardSpec)

/-- ITS FALSE NEIGHBOUR: 'it returns false'. Refute it at one input. -/
def promoteGuardWrong : ChangeSpec := { name := "promoteGuard", fn := fun _ => fun
  | [d1, d2, d3] => { results := [.lit (.bool false)], args := [d1, d2, d3] }
  | _ => none }
def PromoteGuardWrongFalsely : Prop := promoteGuardRow.holds Try.pinned (OpenSpec.ofChange promoteGuardWrong)

/-- 'governorlaw19.PromoteAlone': WHATEVER THE INPUT: true; the input reads as it did. -/
def promoteAloneSpec : ChangeSpec := { name := "promoteAlone", fn := fun _ => fun
  | [d1, d2, d3, d4] => { results := [.lit (.bool true)], args := [d1, d2, d3, d4] }
  | _ => none }
def promoteAloneRow : OpenClaim := { program := "ytlenanfkphglaaa", sum := "15c73ba3eb8ae448a9acb01cd26f9cc7d411312003ff2020a87df6ca22affbe1", func := "governor/governorlaw19.PromoteAlone", spec := "promoteAlone", unfollowed := true, recurses := true, apart := false }
def PromoteAloneSaid : Prop := promoteAloneRow.holds Try.pinned (OpenSpec.ofChange promoteAloneSpec)

/-- ITS FALSE NEIGHBOUR: 'it returns false'. Refute it at one input. -/
def promoteAloneWrong : ChangeSpec := { name := "promoteAlone", fn := fun _ => fun
  | [d1, d2, d3, d4] => { results := [.lit (.bool false)], args := [d1, d2, d3, d4] }
  | _ => none }
def PromoteAloneWrongFalsely : Prop := promoteAloneRow.holds Try.pinned (OpenSpec.ofChange promoteAloneWrong)

/-- 'governorlaw19.PromoteTicks': WHATEVER THE INPUT: true; the input reads as it did. -/
def promoteTicksSpec : ChangeSpec := { name := "promoteTicks", fn := fun _ => fun
  | [d1, d2, d3, d4, d5] => { results := [.lit (.bool true)], args := [d1, d2, d3, d4, d5] }
  | _ => none }
def promoteTicksRow : OpenClaim := { program := "ytlenanfkphglaaa", sum := "15c73ba3eb8ae448a9acb01cd26f9cc7d411312003ff2020a87df6ca22affbe1", func := "governor/governorlaw19.PromoteTicks", spec := "promoteTicks", unfollowed := true, recurses := true, apart := false }
def PromoteTicksSaid : Prop := promoteTicksRow.holds Try.pinned (OpenSpec.ofChange promoteTicksSpec)

/-- ITS FALSE NEIGHBOUR: 'it returns false'. Refute it at one input. -/
def promoteTicksWrong : ChangeSpec := { name := "promoteTicks", fn := fun _ => fun
  | [d1, d2, d3, d4, d5] => { results := [.lit (.bool false)], args := [d1, d2, d3, d4, d5] }
  | _ => none }
def PromoteTicksWrongFalsely : Prop := promoteTicksRow.holds Try.pinned (OpenSpec.ofChange promoteTicksWrong)

/-- 'governorlaw19.PromoteNone': WHATEVER THE INPUT: true; the input reads as it did. -/
def promoteNoneSpec : ChangeSpec := { name := "promoteNone", fn := fun _ => fun
  | [d1, d2, d3] => { results := [.lit (.bool true)], args := [d1, d2, d3] }
  | _ => none }
def promoteNoneRow : OpenClaim := { program := "ytlenanfkphglaaa", sum := "15c73ba3eb8ae448a9acb01cd26f9cc7d411312003ff2020a87df6ca22affbe1", func := "governor/governorlaw19.PromoteNone", spec := "promoteNone", unfollowed := true, recurses := true, apart := false }
def PromoteNoneSaid : Prop := promoteNoneRow.holds Try.pinned (OpenSpec.ofChange promoteNoneSpec)

/-- ITS FALSE NEIGHBOUR: 'it returns false'. Refute it at one input. -/
def promoteNoneWrong : ChangeSpec := { name := "promoteNone", fn := fun _ => fun
  | [d1, d2, d3] => { results := [.lit (.bool false)], args := [d1, d2, d3] }
  | _ => none }
def PromoteNoneWrongFalsely : Prop := promoteNoneRow.holds Try.pinned (OpenSpec.ofChange promoteNoneWrong)

/- THE SECOND FORM. 'bulk': how many values and letters a reading holds, each counted each time it is reached (what is shared counts as often as it is met; a slice's spare places count too). A statement '..UptoSaid' is the law's where the arguments, and the package variables that the reading takes, are together of bulk at most 1048576: NARROWER than '..Said'. Prove '..Said' where nothing that the law and all that it calls make is longer than what came in: it says more and counts as full. Else prove '..UptoSaid'. A law counts once. -/
mutual
def uptoBulk {H : Type} : DataW H → Nat
  | .lit (.string bytes) => bytes.length + 1
  | .lit _ => 1
  | .nil => 1
  | .ptr d => uptoBulk d + 1
  | .slice elems spare => uptoBulkAll elems + uptoBulkAll spare + 1
  | .agg parts => uptoBulkAll parts + 1
  | .iface _ d => uptoBulk d + 1
  | .map entries => uptoBulkEntries entries + 1
  | .held _ => 1
def uptoBulkAll {H : Type} : List (DataW H) → Nat
  | [] => 0
  | d :: r => uptoBulk d + uptoBulkAll r
def uptoBulkEntries {H : Type} : List (Lit × DataW H) → Nat
  | [] => 0
  | x :: r => uptoBulkEntry x + uptoBulkEntries r
def uptoBulkEntry {H : Type} : Lit × DataW H → Nat
  | (.string bytes, d) => bytes.length + uptoBulk d + 1
  | (_, d) => uptoBulk d + 1
 end
def uptoSmall : (H : Type) → List (DataW H) → Bool := fun _ ds => decide (uptoBulkAll ds ≤ 1048576)
def OpenSpec.upto (s : _root_.Go.ChangeSpec) : _root_.Go.OpenSpec := { _root_.Go.OpenSpec.ofChange s with cond := some uptoSmall }

/-- 'governorlaw19.PromoteTells', WHERE WHAT IT READS IS OF BULK AT MOST 1048576: true; the input reads as it did. -/
def promoteTellsUptoRow : OpenClaim := { program := "ytlenanfkphglaaa", sum := "15c73ba3eb8ae448a9acb01cd26f9cc7d411312003ff2020a87df6ca22affbe1", func := "governor/governorlaw19.PromoteTells", spec := "promoteTells", unfollowed := true, recurses := true, apart := false, narrowed := true }
def PromoteTellsUptoSaid : Prop := promoteTellsUptoRow.holds Try.pinned (OpenSpec.upto promoteTellsSpec)

/-- 'governorlaw19.PromoteGuard', WHERE WHAT IT READS IS OF BULK AT MOST 1048576: true; the input reads as it did. -/
def promoteGuardUptoRow : OpenClaim := { program := "ytlenanfkphglaaa", sum := "15c73ba3eb8ae448a9acb01cd26f9cc7d411312003ff2020a87df6ca22affbe1", func := "governor/governorlaw19.PromoteGuard", spec := "promoteGuard", unfollowed := true, recurses := true, apart := false, narrowed := true }
def PromoteGuardUptoSaid : Prop := promoteGuardUptoRow.holds Try.pinned (OpenSpec.upto promoteGuardSpec)

/-- 'governorlaw19.PromoteAlone', WHERE WHAT IT READS IS OF BULK AT MOST 1048576: true; the input reads as it did. -/
def promoteAloneUptoRow : OpenClaim := { program := "ytlenanfkphglaaa", sum := "15c73ba3eb8ae448a9acb01cd26f9cc7d411312003ff2020a87df6ca22affbe1", func := "governor/governorlaw19.PromoteAlone", spec := "promoteAlone", unfollowed := true, recurses := true, apart := false, narrowed := true }
def PromoteAloneUptoSaid : Prop := promoteAloneUptoRow.holds Try.pinned (OpenSpec.upto promoteAloneSpec)

/-- 'governorlaw19.PromoteTicks', WHERE WHAT IT READS IS OF BULK AT MOST 1048576: true; the input reads as it did. -/
def promoteTicksUptoRow : OpenClaim := { program := "ytlenanfkphglaaa", sum := "15c73ba3eb8ae448a9acb01cd26f9cc7d411312003ff2020a87df6ca22affbe1", func := "governor/governorlaw19.PromoteTicks", spec := "promoteTicks", unfollowed := true, recurses := true, apart := false, narrowed := true }
def PromoteTicksUptoSaid : Prop := promoteTicksUptoRow.holds Try.pinned (OpenSpec.upto promoteTicksSpec)

/-- 'governorlaw19.PromoteNone', WHERE WHAT IT READS IS OF BULK AT MOST 1048576: true; the input reads as it did. -/
def promoteNoneUptoRow : OpenClaim := { program := "ytlenanfkphglaaa", sum := "15c73ba3eb8ae448a9acb01cd26f9cc7d411312003ff2020a87df6ca22affbe1", func := "governor/governorlaw19.PromoteNone", spec := "promoteNone", unfollowed := true, recurses := true, apart := false, narrowed := true }
def PromoteNoneUptoSaid : Prop := promoteNoneUptoRow.holds Try.pinned (OpenSpec.upto promoteNoneSpec)

end Rows
end Go.Proofs.Ytlenanfkphglaaa
