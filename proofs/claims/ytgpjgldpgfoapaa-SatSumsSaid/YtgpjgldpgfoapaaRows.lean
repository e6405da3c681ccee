/-
  No cell of these rows narrows 'for every input' (looked for: loops, veiled, ifaces, maps, wideKeys, modest, calm, conditions, laid).
  DERIVED. THE GIVEN ROWS OF THIS SEAT. 5 by the template 'for every input the law returns true; each argument reads behind the call as it read before'; 0 by the template 'total and deterministic' (their statements: YtgpjgldpgfoapaaTotals.lean).
  GIVEN WITH THE SEED: the statements are not yours to turn. If you find one false, say at which input.
  Laid BY PROGRAM, IN A SANDBOX (cutbox-rows.mjs): the forced cells as the released guide's own fill.sh prints them over the translation 8cba129115b4a688… (all of the seat's roots in one cut). By AI agents, Wed Nov 11 2026. No macro, syntax, notation, axiom, sorry.
-/
import Derived.Test.YtgpjgldpgfoapaaChecked
import GoSem.Claim
import GoSem.ClaimJoined
import GoSem.ClaimMapViews
import Derived.JoinedTies
import Derived.KernelRfl
namespace Go.Proofs.Ytgpjgldpgfoapaa
/- THE CELL 'sum', in the pinned program and in every row, IS THE sha256 OF THE DUMP (.gsa) THAT YtgpjgldpgfoapaaProg.lean LOADS. Nothing in Lean hashes anything: it is a label: what it is worth is what the hold of that sum in a sandbox is worth. -/
noncomputable def Try.pinned : Pinned := { name := "ytgpjgldpgfoapaa", sum := "8cba129115b4a688c5bf2df7fcd522dd0504b368fc3fb49a8c2d2a0a993a7699", checked := Try.checked }
namespace Rows
def none {H : Type} : Left H := { results := [], args := [] }

/-- 'lookoutlaw02.SatAdds': WHATEVER THE INPUT: true; the input reads as it did. -/
def satAddsSpec : ChangeSpec := { name := "satAdds", fn := fun _ => fun
  | [d1, d2] => { results := [.lit (.bool true)], args := [d1, d2] }
  | _ => none }
def satAddsRow : OpenClaim := { program := "ytgpjgldpgfoapaa", sum := "8cba129115b4a688c5bf2df7fcd522dd0504b368fc3fb49a8c2d2a0a993a7699", func := "lookout/lookoutlaw02.SatAdds", spec := "satAdds", apart := false }
def SatAddsSaid : Prop := satAddsRow.holds Try.pinned (OpenSpec.ofChange satAddsSpec)

/-- ITS FALSE NEIGHBOUR: 'it returns false'. Refute it at one input. -/
def satAddsWrong : ChangeSpec := { name := "satAdds", fn := fun _ => fun
  | [d1, d2] => { results := [.lit (.bool false)], args := [d1, d2] }
  | _ => none }
def SatAddsWrongFalsely : Prop := satAddsRow.holds Try.pinned (OpenSpec.ofChange satAddsWrong)

/-- 'lookoutlaw02.SatOrder': WHATEVER THE INPUT: true; the input reads as it did. -/
def satOrderSpec : ChangeSpec := { name := "satOrder", fn := fun _ => fun
  | [d1, d2, d3] => { results := [.lit (.bool true)], args := [d1, d2, d3] }
  | _ => none }
def satOrderRow : OpenClaim := { program := "ytgpjgldpgfoapaa", sum := "8cba129115b4a688c5bf2df7fcd522dd0504b368fc3fb49a8c2d2a0a993a7699", func := "lookout/lookoutlaw02.SatOrder", spec := "satOrder", apart := false }
def SatOrderSaid : Prop := satOrderRow.holds Try.pinned (OpenSpec.ofChange satOrderSpec)

/-- ITS FALSE NEIGHBOUR: 'it returns false'. Refute it at one input. -/
def satOrderWrong : ChangeSpec := { name := "satOrder", fn := fun _ => fun
  | [d1, d2, d3] => { results := [.lit (.bool false)], args := [d1, d2, d3] }
  | _ => none }
def SatOrderWrongFalsely : Prop := satOrderRow.holds Try.pinned (OpenSpec.ofChange satOrderWrong)

/-- 'lookoutlaw02.SatWindow': WHATEVER THE INPUT: true; the input reads as it did. -/
def satWindowSpec : ChangeSpec := { name := "satWindow", fn := fun _ => fun
  | [d1, d2, d3] => { results := [.lit (.bool true)], args := [d1, d2, d3] }
  | _ => none }
def satWindowRow : OpenClaim := { program := "ytgpjgldpgfoapaa", sum := "8cba129115b4a688c5bf2df7fcd522dd0504b368fc3fb49a8c2d2a0a993a7699", func := "lookout/lookoutlaw02.SatWindow", spec := "satWindow", apart := false }
def SatWindowSaid : Prop := satWindowRow.holds Try.pinned (OpenSpec.ofChange satWindowSpec)

/-- ITS FALSE NEIGHBOUR: 'it returns false'. Refute it at one input. -/
def satWindowWrong : ChangeSpec := { name := "satWindow", fn := fun _ => fun
  | [d1, d2, d3] => { results := [.lit (.bool false)], args := [d1, d2, d3] }
  | _ => none }
def SatWindowWrongFalsely : Prop := satWindowRow.holds Try.pinned (OpenSpec.ofChange satWindowWrong)

/-- 'lookoutlaw02.SatSums': WHATEVER THE INPUT: true; the input reads as it did. -/
def satSumsSpec : ChangeSpec := { name := "satSums", fn := fun _ => fun
  | [d] => { results := [.lit (.bool true)], args := [d] }
  | _ => none }
def satSumsRow : OpenClaim := { program := "ytgpjgldpgfoapaa", sum := "8cba129115b4a688c5bf2df7fcd522dd0504b368fc3fb49a8c2d2a0a993a7699", func := "lookout/lookoutlaw02.SatSums", spec := "satSums", apart := false }
def SatSumsSaid : Prop := satSumsRow.holds Try.pinned (OpenSpec.ofChange satSumsSpec)

/-- ITS FALSE NEIGHBOUR: 'it returns false'. Refute it at one input. -/
def satSumsWrong : ChangeSpec := { name := "satSums", fn := fun _ => fun
  | [d] => { results := [.lit (.bool false)], args := [d] }
  | _ => none }
def SatSumsWrongFalsely : Prop := satSumsRow.holds Try.pinned (OpenSpec.ofChange satSumsWrong)

/-- 'lookoutlaw02.SatMeets': WHATEVER THE INPUT: true; the input reads as it did. -/
def satMeetsSpec : ChangeSpec := { name := "satMeets", fn := fun _ => fun
  | [d1, d2, d3] => { results := [.lit (.bool true)], args := [d1, d2, d3] }
  | _ => none }
def satMeetsRow : OpenClaim := { program := "ytgpjgldpgfoapaa", sum := "8cba129115b4a688c5bf2df7fcd522dd0504b368fc3fb49a8c2d2a0a993a7699", func := "lookout/lookoutlaw02.SatMeets", spec := "satMeets", apart := false }
def SatMeetsSaid : Prop := satMeetsRow.holds Try.pinned (OpenSpec.ofChange satMeetsSpec)

/-- ITS FALSE NEIGHBOUR: 'it returns false'. Refute it at one input. -/
def satMeetsWrong : ChangeSpec := { name := "satMeets", fn := fun _ => fun
  | [d1, d2, d3] => { results := [.lit (.bool false)], args := [d1, d2, d3] }
  | _ => none }
def SatMeetsWrongFalsely : Prop := satMeetsRow.holds Try.pinned (OpenSpec.ofChange satMeetsWrong)

/- THE SECOND FORM. 'bulk': how many values and letters a reading holds, each counted each time it is reached (what is shared counts as often as it is met; a slice's spare places count too). A statement '..UptoSaid' is the law's where the arguments, and the package variables that the reading takes, are together of bulk at most 1048576: NARROWER than '..Said'. Prove '..Said' where nothing that the law and all that it calls make is longer than what came in: it says more and counts as full. Else prove '..UptoSaid'. A law counts once. -/
mutual
def uptoBulk {H : Type} : DataW H → Nat
  | .lit (.string bytes) => bytes.length + 1
  | .lit _ => 1
  | .nil => 1
  | .ptr d => uptoBulk d + 1
  | .slice elems spare => uptoBulkAll elems + uptoBulkAll spare + 1
  | .agg parts => uptoBulkAll parts + 1
  | .iface _ d => uptoBulk d + 1
  | .map entries => uptoBulkEntries entries + 1
  | .held _ => 1
def uptoBulkAll {H : Type} : List (DataW H) → Nat
  | [] => 0
  | d :: r => uptoBulk d + uptoBulkAll r
def uptoBulkEntries {H : Type} : List (Lit × DataW H) → Nat
  | [] => 0
  | x :: r => uptoBulkEntry x + uptoBulkEntries r
def uptoBulkEntry {H : Type} : Lit × DataW H → Nat
  | (.string bytes, d) => bytes.length + uptoBulk d + 1
  | (_, d) => uptoBulk d + 1
 end
def uptoSmall : (H : Type) → List (DataW H) → Bool := fun _ ds => decide (uptoBulkAll ds ≤ 1048576)
def OpenSpec.upto (s : _root_.Go.ChangeSpec) : _root_.Go.OpenSpec := { _root_.Go.OpenSpec.ofChange s with cond := some uptoSmall }

/-- 'lookoutlaw02.SatAdds', WHERE WHAT IT READS IS OF BULK AT MOST 1048576: true; the input reads as it did. -/
def satAddsUptoRow : OpenClaim := { program := "ytgpjgldpgfoapaa", sum := "8cba129115b4a688c5bf2df7fcd522dd0504b368fc3fb49a8c2d2a0a993a7699", func := "lookout/lookoutlaw02.SatAdds", spec := "satAdds", apart := false, narrowed := true }
def SatAddsUptoSaid : Prop := satAddsUptoRow.holds Try.pinned (OpenSpec.upto satAddsSpec)

/-- 'lookoutlaw02.SatOrder', WHERE WHAT IT READS IS OF BULK AT MOST 1048576: true; the input reads as it did. -/
def satOrderUptoRow : OpenClaim := { program := "ytgpjgldpgfoapaa", sum := "8cba129115b4a688c5bf2df7fcd522dd0504b368fc3fb49a8c2d2a0a993a7699", func := "lookout/lookoutlaw02.SatOrder", spec := "satOrder", apart := false, narrowed := true }
def SatOrderUptoSaid : Prop := satOrderUptoRow.holds Try.pinned (OpenSpec.upto satOrderSpec)

/-- 'lookoutlaw02.SatWindow', WHERE WHAT IT READS IS OF BULK AT MOST 1048576: true; the input reads as it did. -/
def satWindowUptoRow : OpenClaim := { program := "ytgpjgldpgfoapaa", sum := "8cba129115b4a688c5bf2df7fcd522dd0504b368fc3fb49a8c2d2a0a993a7699", func := "lookout/lookoutlaw02.SatWindow", spec := "satWindow", apart := false, narrowed := true }
def SatWindowUptoSaid : Prop := satWindowUptoRow.holds Try.pinned (OpenSpec.upto satWindowSpec)

/-- 'lookoutlaw02.SatSums', WHERE WHAT IT READS IS OF BULK AT MOST 1048576: true; the input reads as it did. -/
def satSumsUptoRow : OpenClaim := { program := "ytgpjgldpgfoapaa", sum := "8cba129115b4a688c5bf2df7fcd522dd0504b368fc3fb49a8c2d2a0a993a7699", func := "lookout/lookoutlaw02.SatSums", spec := "satSums", apart := false, narrowed := true }
def SatSumsUptoSaid : Prop := satSumsUptoRow.holds Try.pinned (OpenSpec.upto satSumsSpec)

/-- 'lookoutlaw02.SatMeets', WHERE WHAT IT READS IS OF BULK AT MOST 1048576: true; the input reads as it did. -/
def satMeetsUptoRow : OpenClaim := { program := "ytgpjgldpgfoapaa", sum := "8cba129115b4a688c5bf2df7fcd522dd0504b368fc3fb49a8c2d2a0a993a7699", func := "lookout/lookoutlaw02.SatMeets", spec := "satMeets", apart := false, narrowed := true }
def SatMeetsUptoSaid : Prop := satMeetsUptoRow.holds Try.pinned (OpenSpec.upto satMeetsSpec)

end Rows
end Go.Proofs.Ytgpjgldpgfoapaa
