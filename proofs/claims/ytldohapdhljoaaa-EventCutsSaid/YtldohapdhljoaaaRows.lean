/-
  No cell of these rows narrows 'for every input' (looked for: loops, veiled, ifaces, maps, wideKeys, modest, calm, conditions, laid).
  DERIVED. THE GIVEN ROWS OF THIS SEAT. 6 by the template 'for every input the law returns true; each argument reads behind the call as it read before'; 0 by the template 'total and deterministic' (their statements: YtldohapdhljoaaaTotals.lean).
  GIVEN WITH THE SEED: the statements are not yours to turn. If you find one false, say at which input.
  Laid BY PROGRAM, IN A SANDBOX (cutbox-rows.mjs): the forced cells as the released guide's own fill.sh prints them over the translation 104d089230c42085… (all of the seat's roots in one cut). By AI agents, Wed Nov 11 2026. No macro, syntax, notation, axiom, sorry.
-/
import Derived.Test.YtldohapdhljoaaaChecked
import GoSem.Claim
import GoSem.ClaimJoined
import GoSem.ClaimMapViews
import Derived.JoinedTies
import Derived.KernelRfl
namespace Go.Proofs.Ytldohapdhljoaaa
/- THE CELL 'sum', in the pinned program and in every row, IS THE sha256 OF THE DUMP (.gsa) THAT YtldohapdhljoaaaProg.lean LOADS. Nothing in Lean hashes anything: it is a label: what it is worth is what the hold of that sum in a sandbox is worth. -/
noncomputable def Try.pinned : Pinned := { name := "ytldohapdhljoaaa", sum := "104d089230c420855961530df5a8c952df5d2780557c20e866ebaa99af8df12d", checked := Try.checked }
namespace Rows
def none {H : Type} : Left H := { results := [], args := [] }

/-- 'governorlaw09.EventTells': WHATEVER THE INPUT: true; the input reads as it did. -/
def eventTellsSpec : ChangeSpec := { name := "eventTells", fn := fun _ => fun
  | [d1, d2, d3] => { results := [.lit (.bool true)], args := [d1, d2, d3] }
  | _ => none }
def eventTellsRow : OpenClaim := { program := "ytldohapdhljoaaa", sum := "104d089230c420855961530df5a8c952df5d2780557c20e866ebaa99af8df12d", func := "governor/governorlaw09.EventTells", spec := "eventTells", unfollowed := true, recurses := true, apart := false }
def EventTellsSaid : Prop := eventTellsRow.holds Try.pinned (OpenSpec.ofChange eventTellsSpec)

/-- ITS FALSE NEIGHBOUR: 'it returns false'. Refute it at one input. -/
def eventTellsWrong : ChangeSpec := { name := "eventTells", fn := fun _ => fun
  | [d1, d2, d3] => { results := [.lit (.bool false)], args := [d1, d2, d3] }
  | _ => none }
def EventTellsWrongFalsely : Prop := eventTellsRow.holds Try.pinned (OpenSpec.ofChange eventTellsWrong)

/-- 'governorlaw09.EventBack': WHATEVER THE INPUT: true; the input reads as it did. -/
def eventBackSpec : ChangeSpec := { name := "eventBack", fn := fun _ => fun
  | [d1, d2, d3] => { results := [.lit (.bool true)], args := [d1, d2, d3] }
  | _ => none }
def eventBackRow : OpenClaim := { program := "ytldohapdhljoaaa", sum := "104d089230c420855961530df5a8c952df5d2780557c20e866ebaa99af8df12d", func := "governor/governorlaw09.EventBack", spec := "eventBack", unfollowed := true, recurses := true, apart := false }
def EventBackSaid : Prop := eventBackRow.holds Try.pinned (OpenSpec.ofChange eventBackSpec)

/-- ITS FALSE NEIGHBOUR: 'it returns false'. Refute it at one input. -/
def eventBackWrong : ChangeSpec := { name := "eventBack", fn := fun _ => fun
  | [d1, d2, d3] => { results := [.lit (.bool false)], args := [d1, d2, d3] }
  | _ => none }
def EventBackWrongFalsely : Prop := eventBackRow.holds Try.pinned (OpenSpec.ofChange eventBackWrong)

/-- 'governorlaw09.EventCuts': WHATEVER THE INPUT: true; the input reads as it did. -/
def eventCutsSpec : ChangeSpec := { name := "eventCuts", fn := fun _ => fun
  | [d1, d2, d3] => { results := [.lit (.bool true)], args := [d1, d2, d3] }
  | _ => none }
def eventCutsRow : OpenClaim := { program := "ytldohapdhljoaaa", sum := "104d089230c420855961530df5a8c952df5d2780557c20e866ebaa99af8df12d", func := "governor/governorlaw09.EventCuts", spec := "eventCuts", unfollowed := true, recurses := true, apart := false }
def EventCutsSaid : Prop := eventCutsRow.holds Try.pinned (OpenSpec.ofChange eventCutsSpec)

/-- ITS FALSE NEIGHBOUR: 'it returns false'. Refute it at one input. -/
def eventCutsWrong : ChangeSpec := { name := "eventCuts", fn := fun _ => fun
  | [d1, d2, d3] => { results := [.lit (.bool false)], args := [d1, d2, d3] }
  | _ => none }
def EventCutsWrongFalsely : Prop := eventCutsRow.holds Try.pinned (OpenSpec.ofChange eventCutsWrong)

/-- 'governorlaw09.EventOwn': WHATEVER THE INPUT: true; the input reads as it did. -/
def eventOwnSpec : ChangeSpec := { name := "eventOwn", fn := fun _ => fun
  | [d1, d2] => { results := [.lit (.bool true)], args := [d1, d2] }
  | _ => none }
def eventOwnRow : OpenClaim := { program := "ytldohapdhljoaaa", sum := "104d089230c420855961530df5a8c952df5d2780557c20e866ebaa99af8df12d", func := "governor/governorlaw09.EventOwn", spec := "eventOwn", unfollowed := true, recurses := true, apart := false }
def EventOwnSaid : Prop := eventOwnRow.holds Try.pinned (OpenSpec.ofChange eventOwnSpec)

/-- ITS FALSE NEIGHBOUR: 'it returns false'. Refute it at one input. -/
def eventOwnWrong : ChangeSpec := { name := "eventOwn", fn := fun _ => fun
  | [d1, d2] => { results := [.lit (.bool false)], args := [d1, d2] }
  | _ => none }
def EventOwnWrongFalsely : Prop := eventOwnRow.holds Try.pinned (OpenSpec.ofChange eventOwnWrong)

/-- 'governorlaw09.EventPolicies': WHATEVER THE INPUT: true; the input reads as it did. -/
def eventPoliciesSpec : ChangeSpec := { name := "eventPolicies", fn := fun _ => fun
  | [d1, d2] => { results := [.lit (.bool true)], args := [d1, d2] }
  | _ => none }
def eventPoliciesRow : OpenClaim := { program := "ytldohapdhljoaaa", sum := "104d089230c420855961530df5a8c952df5d2780557c20e866ebaa99af8df12d", func := "governor/governorlaw09.EventPolicies", spec := "eventPolicies", unfollowed := true, recurses := true, apart := false }
def EventPoliciesSaid : Prop := eventPoliciesRow.holds Try.pinned (OpenSpec.ofChange eventPoliciesSpec)

/-- ITS FALSE NEIGHBOUR: 'it returns false'. Refute it at one input. -/
def eventPoliciesWrong : ChangeSpec := { name := "eventPolicies", fn := fun _ => fun
  | [d1, d2] => { results := [.lit (.bool false)], args := [d1, d2] }
  | _ => none }
def EventPoliciesWrongFalsely : Prop := eventPoliciesRow.holds Try.pinned (OpenSpec.ofChange eventPoliciesWrong)

/-- 'governorlaw09.EventKinds': WHATEVER THE INPUT: true; the input reads as it did. -/
def eventKindsSpec : ChangeSpec := { name := "eventKinds", fn := fun _ => fun
  | [d1, d2] => { results := [.lit (.bool true)], args := [d1, d2] }
  | _ => none }
def eventKindsRow : OpenClaim := { program := "ytldohapdhljoaaa", sum := "104d089230c420855961530df5a8c952df5d2780557c20e866ebaa99af8df12d", func := "governor/governorlaw09.EventKinds", spec := "eventKinds", unfollowed := true, recurses := true, apart := false }
def EventKindsSaid : Prop := eventKindsRow.holds Try.pinned (OpenSpec.ofChange eventKindsSpec)

/-- ITS FALSE NEIGHBOUR: 'it returns false'. Refute it at one input. -/
def eventKindsWrong : ChangeSpec := { name := "eventKinds", fn := fun _ => fun
  | [d1, d2] => { results := [.lit (.bool false)], args := [d1, d2] }
  | _ => none }
def EventKindsWrongFalsely : Prop := eventKindsRow.holds Try.pinned (OpenSpec.ofChange eventKindsWrong)

/- THE SECOND FORM. 'bulk': how many values and letters a reading holds, each counted each time it is reached (what is shared counts as often as it is met; a slice's spare places count too). A statement '..UptoSaid' is the law's where the arguments, and the package variables that the reading takes, are together of bulk at most 1048576: NARROWER than '..Said'. Prove '..Said' where nothing that the law and all that it calls make is longer than what came in: it says more and counts as full. Else prove '..UptoSaid'. A law counts once. -/
mutual
def uptoBulk {H : Type} : DataW H → Nat
  | .lit (.string bytes) => bytes.length + 1
  | .lit _ => 1
  | .nil => 1
  | .ptr d => uptoBulk d + 1
  | .slice elems spare => uptoBulkAll elems + uptoBulkAll spare + 1
  | .agg parts => uptoBulkAll parts + 1
  | .iface _ d => uptoBulk d + 1
  | .map entries => uptoBulkEntries entries + 1
  | .held _ => 1
def uptoBulkAll {H : Type} : List (DataW H) → Nat
  | [] => 0
  | d :: r => uptoBulk d + uptoBulkAll r
def uptoBulkEntries {H : Type} : List (Lit × DataW H) → Nat
  | [] => 0
  | x :: r => uptoBulkEntry x + uptoBulkEntries r
def uptoBulkEntry {H : Type} : Lit × DataW H → Nat
  | (.string bytes, d) => bytes.length + uptoBulk d + 1
  | (_, d) => uptoBulk d + 1
 end
def uptoSmall : (H : Type) → List (DataW H) → Bool := fun _ ds => decide (uptoBulkAll ds ≤ 1048576)
def OpenSpec.upto (s : _root_.Go.ChangeSpec) : _root_.Go.OpenSpec := { _root_.Go.OpenSpec.ofChange s with cond := some uptoSmall }

/-- 'governorlaw09.EventTells', WHERE WHAT IT READS IS OF BULK AT MOST 1048576: true; the input reads as it did. -/
def eventTellsUptoRow : OpenClaim := { program := "ytldohapdhljoaaa", sum := "104d089230c420855961530df5a8c952df5d2780557c20e866ebaa99af8df12d", func := "governor/governorlaw09.EventTells", spec := "eventTells", unfollowed := true, recurses := true, apart := false, narrowed := true }
def EventTellsUptoSaid : Prop := eventTellsUptoRow.holds Try.pinned (OpenSpec.upto eventTellsSpec)

/-- 'governorlaw09.EventBack', WHERE WHAT IT READS IS OF BULK AT MOST 1048576: true; the input reads as it did. -/
def eventBackUptoRow : OpenClaim := { program := "ytldohapdhljoaaa", sum := "104d089230c420855961530df5a8c952df5d2780557c20e866ebaa99af8df12d", func := "governor/governorlaw09.EventBack", spec := "eventBack", unfollowed := true, recurses := true, apart := false, narrowed := true }
def EventBackUptoSaid : Prop := eventBackUptoRow.holds Try.pinned (OpenSpec.upto eventBackSpec)

/-- 'governorlaw09.EventCuts', WHERE WHAT IT READS IS OF BULK AT MOST 1048576: true; the input reads as it did. -/
def eventCutsUptoRow : OpenClaim := { program := "ytldohapdhljoaaa", sum := "104d089230c420855961530df5a8c952df5d2780557c20e866ebaa99af8df12d", func := "governor/governorlaw09.EventCuts", spec := "eventCuts", unfollowed := true, recurses := true, apart := false, narrowed := true }
def EventCutsUptoSaid : Prop := eventCutsUptoRow.holds Try.pinned (OpenSpec.upto eventCutsSpec)

/-- 'governorlaw09.EventOwn', WHERE WHAT IT READS IS OF BULK AT MOST 1048576: true; the input reads as it did. -/
def eventOwnUptoRow : OpenClaim := { program := "ytldohapdhljoaaa", sum := "104d089230c420855961530df5a8c952df5d2780557c20e866ebaa99af8df12d", func := "governor/governorlaw09.EventOwn", spec := "eventOwn", unfollowed := true, recurses := true, apart := false, narrowed := true }
def EventOwnUptoSaid : Prop := eventOwnUptoRow.holds Try.pinned (OpenSpec.upto eventOwnSpec)

/-- 'governorlaw09.EventPolicies', WHERE WHAT IT READS IS OF BULK AT MOST 1048576: true; the input reads as it did. -/
def eventPoliciesUptoRow : OpenClaim := { program := "ytldohapdhljoaaa", sum := "104d089230c420855961530df5a8c952df5d2780557c20e866ebaa99af8df12d", func := "governor/governorlaw09.EventPolicies", spec := "eventPolicies", unfollowed := true, recurses := true, apart := false, narrowed := true }
def EventPoliciesUptoSaid : Prop := eventPoliciesUptoRow.holds Try.pinned (OpenSpec.upto eventPoliciesSpec)

/-- 'governorlaw09.EventKinds', WHERE WHAT IT READS IS OF BULK AT MOST 1048576: true; the input reads as it did. -/
def eventKindsUptoRow : OpenClaim := { program := "ytldohapdhljoaaa", sum := "104d089230c420855961530df5a8c952df5d2780557c20e866ebaa99af8df12d", func := "governor/governorlaw09.EventKinds", spec := "eventKinds", unfollowed := true, recurses := true, apart := false, narrowed := true }
def EventKindsUptoSaid : Prop := eventKindsUptoRow.holds Try.pinned (OpenSpec.upto eventKindsSpec)

end Rows
end Go.Proofs.Ytldohapdhljoaaa
