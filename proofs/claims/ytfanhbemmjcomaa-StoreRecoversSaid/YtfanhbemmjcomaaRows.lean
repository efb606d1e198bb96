/-
  No cell of these rows narrows 'for every input' (looked for: loops, veiled, ifaces, maps, wideKeys, modest, calm, conditions, laid).
  DERIVED. THE GIVEN ROWS OF THIS SEAT. 7 by the template 'for every input the law returns true; each argument reads behind the call as it read before'; 0 by the template 'total and deterministic' (their statements: YtfanhbemmjcomaaTotals.lean).
  GIVEN WITH THE SEED: the statements are not yours to turn. If you find one false, say at which input.
  Laid BY PROGRAM, IN A SANDBOX (cutbox-rows.mjs): the forced cells as the released guide's own fill.sh prints them over the translation 8fbf25a0d2ed9a87… (all of the seat's roots in one cut). By AI agents, Wed Nov 11 2026. No macro, syntax, notation, axiom, sorry.
-/
import Derived.Test.YtfanhbemmjcomaaChecked
import GoSem.Claim
import GoSem.ClaimJoined
import GoSem.ClaimMapViews
import Derived.JoinedTies
import Derived.KernelRfl
namespace Go.Proofs.Ytfanhbemmjcomaa
/- THE CELL 'sum', in the pinned program and in every row, IS THE sha256 OF THE DUMP (.gsa) THAT YtfanhbemmjcomaaProg.lean LOADS. Nothing in Lean hashes anything: it is a label: what it is worth is what the hold of that sum in a sandbox is worth. -/
noncomputable def Try.pinned : Pinned := { name := "ytfanhbemmjcomaa", sum := "8fbf25a0d2ed9a8776f4b41c9692f68c174ec9b69cf5e1bfd605cbdb7d527124", checked := Try.checked }
namespace Rows
def none {H : Type} : Left H := { results := [], args := [] }

/-- 'simprooflaw34.StoreFrames': WHATEVER THE INPUT: true; the input reads as it did. -/
def storeFramesSpec : ChangeSpec := { name := "storeFrames", fn := fun _ => fun
  | [d1, d2] => { results := [.lit (.bool true)], args := [d1, d2] }
  | _ => none }
def storeFramesRow : OpenClaim := { program := "ytfanhbemmjcomaa", sum := "8fbf25a0d2ed9a8776f4b41c9692f68c174ec9b69cf5e1bfd605cbdb7d527124", func := "simproof/simprooflaw34.StoreFrames", spec := "storeFrames", unfollowed := true, recurses := true, apart := false }
def StoreFramesSaid : Prop := storeFramesRow.holds Try.pinned (OpenSpec.ofChange storeFramesSpec)

/-- ITS FALSE NEIGHBOUR: 'it returns false'. Refute it at one input. -/
def storeFramesWrong : ChangeSpec := { name := "storeFrames", fn := fun _ => fun
  | [d1, d2] => { results := [.lit (.bool false)], args := [d1, d2] }
  | _ => none }
def StoreFramesWrongFalsely : Prop := storeFramesRow.holds Try.pinned (OpenSpec.ofChange storeFramesWrong)

/-- 'simprooflaw34.StoreOps': WHATEVER THE INPUT: true; the input reads as it did. -/
def storeOpsSpec : ChangeSpec := { name := "storeOps", fn := fun _ => fun
  | [d1, d2, d3] => { results := [.lit (.bool true)], args := [d1, d2, d3] }
  | _ => none }
def storeOpsRow : OpenClaim := { program := "ytfanhbemmjcomaa", sum := "8fbf25a0d2ed9a8776f4b41c9692f68c174ec9b69cf5e1bfd605cbdb7d527124", func := "simproof/simprooflaw34.StoreOps", spec := "storeOps", unfollowed := true, recurses := true, apart := false }
def StoreOpsSaid : Prop := storeOpsRow.holds Try.pinned (OpenSpec.ofChange storeOpsSpec)

/-- ITS FALSE NEIGHBOUR: 'it returns false'. Refute it at one input. -/
def storeOpsWrong : ChangeSpec := { name := "storeOps", fn := fun _ => fun
  | [d1, d2, d3] => { results := [.lit (.bool false)], args := [d1, d2, d3] }
  | _ => none }
def StoreOpsWrongFalsely : Prop := storeOpsRow.holds Try.pinned (OpenSpec.ofChange storeOpsWrong)

/-- 'simprooflaw34.StoreGrows': WHATEVER THE INPUT: true; the input reads as it did. -/
def storeGrowsSpec : ChangeSpec := { name := "storeGrows", fn := fun _ => fun
  | [d] => { results := [.lit (.bool true)], args := [d] }
  | _ => none }
def storeGrowsRow : OpenClaim := { program := "ytfanhbemmjcomaa", sum := "8fbf25a0d2ed9a8776f4b41c9692f68c174ec9b69cf5e1bfd605cbdb7d527124", func := "simproof/simprooflaw34.StoreGrows", spec := "storeGrows", unfollowed := true, recurses := true, apart := false }
def StoreGrowsSaid : Prop := storeGrowsRow.holds Try.pinned (OpenSpec.ofChange storeGrowsSpec)

/-- ITS FALSE NEIGHBOUR: 'it returns false'. Refute it at one input. -/
def storeGrowsWrong : ChangeSpec := { name := "storeGrows", fn := fun _ => fun
  | [d] => { results := [.lit (.bool false)], args := [d] }
  | _ => none }
def StoreGrowsWrongFalsely : Prop := storeGrowsRow.holds Try.pinned (OpenSpec.ofChange storeGrowsWrong)

/-- 'simprooflaw34.StoreOwn': WHATEVER THE INPUT: true; the input reads as it did. -/
def storeOwnSpec : ChangeSpec := { name := "storeOwn", fn := fun _ => fun
  | [d] => { results := [.lit (.bool true)], args := [d] }
  | _ => none }
def storeOwnRow : OpenClaim := { program := "ytfanhbemmjcomaa", sum := "8fbf25a0d2ed9a8776f4b41c9692f68c174ec9b69cf5e1bfd605cbdb7d527124", func := "simproof/simprooflaw34.StoreOwn", spec := "storeOwn", unfollowed := true, recurses := true, apart := false }
def StoreOwnSaid : Prop := storeOwnRow.holds Try.pinned (OpenSpec.ofChange storeOwnSpec)

/-- ITS FALSE NEIGHBOUR: 'it returns false'. Refute it at one input. -/
def storeOwnWrong : ChangeSpec := { name := "storeOwn", fn := fun _ => fun
  | [d] => { results := [.lit (.bool false)], args := [d] }
  | _ => none }
def StoreOwnWrongFalsely : Prop := storeOwnRow.holds Try.pinned (OpenSpec.ofChange storeOwnWrong)

/-- 'simprooflaw34.StoreRecovers': WHATEVER THE INPUT: true; the input reads as it did. -/
def storeRecoversSpec : ChangeSpec := { name := "storeRecovers", fn := fun _ => fun
  | [d1, d2] => { results := [.lit (.bool true)], args := [d1, d2] }
  | _ => none }
def storeRecoversRow : OpenClaim := { program := "ytfanhbemmjcomaa", sum := "8fbf25a0d2ed9a8776f4b41c9692f68c174ec9b69cf5e1bfd605cbdb7d527124", func := "simproof/simprooflaw34.StoreRecovers", spec := "storeRecovers", inPlace := ["internal/reflectlite.TypeOf"], unfollowed := true, recurses := true, apart := false }
def StoreRecoversSaid : Prop := storeRecoversRow.holds Try.pinned (OpenSpec.ofChange storeRecoversSpec)

/-- ITS FALSE NEIGHBOUR: 'it returns false'. Refute it at one input. -/
def storeRecoversWrong : ChangeSpec := { name := "storeRecovers", fn := fun _ => fun
  | [d1, d2] => { results := [.lit (.bool false)], args := [d1, d2] }
  | _ => none }
def StoreRecoversWrongFalsely : Prop := storeRecoversRow.holds Try.pinned (OpenSpec.ofChange storeRecoversWrong)

/-- 'simprooflaw34.StoreRound': WHATEVER THE INPUT: true; the input reads as it did. -/
def storeRoundSpec : ChangeSpec := { name := "storeRound", fn := fun _ => fun
  | [d] => { results := [.lit (.bool true)], args := [d] }
  | _ => none }
def storeRoundRow : OpenClaim := { program := "ytfanhbemmjcomaa", sum := "8fbf25a0d2ed9a8776f4b41c9692f68c174ec9b69cf5e1bfd605cbdb7d527124", func := "simproof/simprooflaw34.StoreRound", spec := "storeRound", inPlace := ["internal/reflectlite.TypeOf"], unfollowed := true, recurses := true, apart := false }
def StoreRoundSaid : Prop := storeRoundRow.holds Try.pinned (OpenSpec.ofChange storeRoundSpec)

/-- ITS FALSE NEIGHBOUR: 'it returns false'. Refute it at one input. -/
def storeRoundWrong : ChangeSpec := { name := "storeRound", fn := fun _ => fun
  | [d] => { results := [.lit (.bool false)], args := [d] }
  | _ => none }
def StoreRoundWrongFalsely : Prop := storeRoundRow.holds Try.pinned (OpenSpec.ofChange storeRoundWrong)

/-- 'simprooflaw34.StoreLimits': WHATEVER THE INPUT: true; the input reads as it did. -/
def storeLimitsSpec : ChangeSpec := { name := "storeLimits", fn := fun _ => fun
  | [d1, d2] => { results := [.lit (.bool true)], args := [d1, d2] }
  | _ => none }
def storeLimitsRow : OpenClaim := { program := "ytfanhbemmjcomaa", sum := "8fbf25a0d2ed9a8776f4b41c9692f68c174ec9b69cf5e1bfd605cbdb7d527124", func := "simproof/simprooflaw34.StoreLimits", spec := "storeLimits", inPlace := ["internal/reflectlite.TypeOf"], unfollowed := true, recurses := true, apart := false }
def StoreLimitsSaid : Prop := storeLimitsRow.holds Try.pinned (OpenSpec.ofChange storeLimitsSpec)

/-- ITS FALSE NEIGHBOUR: 'it returns false'. Refute it at one input. -/
def storeLimitsWrong : ChangeSpec := { name := "storeLimits", fn := fun _ => fun
  | [d1, d2] => { results := [.lit (.bool false)], args := [d1, d2] }
  | _ => none }
def StoreLimitsWrongFalsely : Prop := storeLimitsRow.holds Try.pinned (OpenSpec.ofChange storeLimitsWrong)

/- THE SECOND FORM. 'bulk': how many values and letters a reading holds, each counted each time it is reached (what is shared counts as often as it is met; a slice's spare places count too). A statement '..UptoSaid' is the law's where the arguments, and the package variables that the reading takes, are together of bulk at most 1048576: NARROWER than '..Said'. Prove '..Said' where nothing that the law and all that it calls make is longer than what came in: it says more and counts as full. Else prove '..UptoSaid'. A law counts once. -/
mutual
def uptoBulk {H : Type} : DataW H → Nat
  | .lit (.string bytes) => bytes.length + 1
  | .lit _ => 1
  | .nil => 1
  | .ptr d => uptoBulk d + 1
  | .slice elems spare => uptoBulkAll elems + uptoBulkAll spare + 1
  | .agg parts => uptoBulkAll parts + 1
  | .iface _ d => uptoBulk d + 1
  | .map entries => uptoBulkEntries entries + 1
  | .held _ => 1
def uptoBulkAll {H : Type} : List (DataW H) → Nat
  | [] => 0
  | d :: r => uptoBulk d + uptoBulkAll r
def uptoBulkEntries {H : Type} : List (Lit × DataW H) → Nat
  | [] => 0
  | x :: r => uptoBulkEntry x + uptoBulkEntries r
def uptoBulkEntry {H : Type} : Lit × DataW H → Nat
  | (.string bytes, d) => bytes.length + uptoBulk d + 1
  | (_, d) => uptoBulk d + 1
 end
def uptoSmall : (H : Type) → List (DataW H) → Bool := fun _ ds => decide (uptoBulkAll ds ≤ 1048576)
def OpenSpec.upto (s : _root_.Go.ChangeSpec) : _root_.Go.OpenSpec := { _root_.Go.OpenSpec.ofChange s with cond := some uptoSmall }

/-- 'simprooflaw34.StoreFrames', WHERE WHAT IT READS IS OF BULK AT MOST 1048576: true; the input reads as it did. -/
def storeFramesUptoRow : OpenClaim := { program := "ytfanhbemmjcomaa", sum := "8fbf25a0d2ed9a8776f4b41c9692f68c174ec9b69cf5e1bfd605cbdb7d527124", func := "simproof/simprooflaw34.StoreFrames", spec := "storeFrames", unfollowed := true, recurses := true, apart := false, narrowed := true }
def StoreFramesUptoSaid : Prop := storeFramesUptoRow.holds Try.pinned (OpenSpec.upto storeFramesSpec)

/-- 'simprooflaw34.StoreOps', WHERE WHAT IT READS IS OF BULK AT MOST 1048576: true; the input reads as it did. -/
def storeOpsUptoRow : OpenClaim := { program := "ytfanhbemmjcomaa", sum := "8fbf25a0d2ed9a8776f4b41c9692f68c174ec9b69cf5e1bfd605cbdb7d527124", func := "simproof/simprooflaw34.StoreOps", spec := "storeOps", unfollowed := true, recurses := true, apart := false, narrowed := true }
def StoreOpsUptoSaid : Prop := storeOpsUptoRow.holds Try.pinned (OpenSpec.upto storeOpsSpec)

/-- 'simprooflaw34.StoreGrows', WHERE WHAT IT READS IS OF BULK AT MOST 1048576: true; the input reads as it did. -/
def storeGrowsUptoRow : OpenClaim := { program := "ytfanhbemmjcomaa", sum := "8fbf25a0d2ed9a8776f4b41c9692f68c174ec9b69cf5e1bfd605cbdb7d527124", func := "simproof/simprooflaw34.StoreGrows", spec := "storeGrows", unfollowed := true, recurses := true, apart := false, narrowed := true }
def StoreGrowsUptoSaid : Prop := storeGrowsUptoRow.holds Try.pinned (OpenSpec.upto storeGrowsSpec)

/-- 'simprooflaw34.StoreOwn', WHERE WHAT IT READS IS OF BULK AT MOST 1048576: true; the input reads as it did. -/
def storeOwnUptoRow : OpenClaim := { program := "ytfanhbemmjcomaa", sum := "8fbf25a0d2ed9a8776f4b41c9692f68c174ec9b69cf5e1bfd605cbdb7d527124", func := "simproof/simprooflaw34.StoreOwn", spec := "storeOwn", unfollowed := true, recurses := true, apart := false, narrowed := true }
def StoreOwnUptoSaid : Prop := storeOwnUptoRow.holds Try.pinned (OpenSpec.upto storeOwnSpec)

/-- 'simprooflaw34.StoreRecovers', WHERE WHAT IT READS IS OF BULK AT MOST 1048576: true; the input reads as it did. -/
def storeRecoversUptoRow : OpenClaim := { program := "ytfanhbemmjcomaa", sum := "8fbf25a0d2ed9a8776f4b41c9692f68c174ec9b69cf5e1bfd605cbdb7d527124", func := "simproof/simprooflaw34.StoreRecovers", spec := "storeRecovers", inPlace := ["internal/reflectlite.TypeOf"], unfollowed := true, recurses := true, apart := false, narrowed := true }
def StoreRecoversUptoSaid : Prop := storeRecoversUptoRow.holds Try.pinned (OpenSpec.upto storeRecoversSpec)

/-- 'simprooflaw34.StoreRound', WHERE WHAT IT READS IS OF BULK AT MOST 1048576: true; the input reads as it did. -/
def storeRoundUptoRow : OpenClaim := { program := "ytfanhbemmjcomaa", sum := "8fbf25a0d2ed9a8776f4b41c9692f68c174ec9b69cf5e1bfd605cbdb7d527124", func := "simproof/simprooflaw34.StoreRound", spec := "storeRound", inPlace := ["internal/reflectlite.TypeOf"], unfollowed := true, recurses := true, apart := false, narrowed := true }
def StoreRoundUptoSaid : Prop := storeRoundUptoRow.holds Try.pinned (OpenSpec.upto storeRoundSpec)

/-- 'simprooflaw34.StoreLimits', WHERE WHAT IT READS IS OF BULK AT MOST 1048576: true; the input reads as it did. -/
def storeLimitsUptoRow : OpenClaim := { program := "ytfanhbemmjcomaa", sum := "8fbf25a0d2ed9a8776f4b41c9692f68c174ec9b69cf5e1bfd605cbdb7d527124", func := "simproof/simprooflaw34.StoreLimits", spec := "storeLimits", inPlace := ["internal/reflectlite.TypeOf"], unfollowed := true, recurses := true, apart := false, narrowed := true }
def StoreLimitsUptoSaid : Prop := storeLimitsUptoRow.holds Try.pinned (OpenSpec.upto storeLimitsSpec)

end Rows
end Go.Proofs.Ytfanhbemmjcomaa
