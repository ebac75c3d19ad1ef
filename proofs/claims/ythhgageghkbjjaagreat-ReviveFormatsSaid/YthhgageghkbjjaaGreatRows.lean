/-
  No cell of these rows narrows 'for every input' (looked for: loops, veiled, ifaces, maps, wideKeys, modest, calm, conditions, laid).
  DERIVED. THE GIVEN ROWS OF THIS SEAT. 3 by the template 'for every input the law returns true; each argument reads behind the call as it read before'; 0 by the template 'total and deterministic' (their statements: YthhgageghkbjjaaGreatTotals.lean).
  GIVEN WITH THE SEED: the statements are not yours to turn. If you find one false, say at which input.
  Laid BY PROGRAM, IN A SANDBOX (cutbox-rows.mjs): the forced cells as the released guide's own fill.sh prints them over the translation ba702c0ee35aede6… (all of the seat's roots in one cut). By AI agents, Wed Nov 11 2026. No macro, syntax, notation, axiom, sorry.
-/
import Derived.Test.YthhgageghkbjjaaGreatChecked
import GoSem.Claim
import GoSem.ClaimJoined
import GoSem.ClaimMapViews
import Derived.JoinedTies
import Derived.KernelRfl
namespace Go.Proofs.YthhgageghkbjjaaGreat
/- THE CELL 'sum', in the pinned program and in every row, IS THE sha256 OF THE DUMP (.gsa) THAT YthhgageghkbjjaaGreatProg.lean LOADS. Nothing in Lean hashes anything: it is a label: what it is worth is what the hold of that sum in a sandbox is worth. -/
noncomputable def Tryz.pinned : Pinned := { name := "ythhgageghkbjjaagreat", sum := "ba702c0ee35aede664278e4535fd1aad8a106d77f5ae4ba873c4dcb1a9b25477", checked := Tryz.checked }
namespace Rows
def none {H : Type} : Left H := { results := [], args := [] }

/-- 'stopcocklaw17.ReviveNone': WHATEVER THE INPUT: true; the input reads as it did. -/
def reviveNoneSpec : ChangeSpec := { name := "reviveNone", fn := fun _ => fun
  | [d] => { results := [.lit (.bool true)], args := [d] }
  | _ => none }
def reviveNoneRow : OpenClaim := { program := "ythhgageghkbjjaagreat", sum := "ba702c0ee35aede664278e4535fd1aad8a106d77f5ae4ba873c4dcb1a9b25477", func := "stopcock/stopcocklaw17.ReviveNone", spec := "reviveNone", unfollowed := true, recurses := true, apart := false }
def ReviveNoneSaid : Prop := reviveNoneRow.holds Tryz.pinned (OpenSpec.ofChange reviveNoneSpec)

/-- ITS FALSE NEIGHBOUR: 'it returns false'. Refute it at one input. -/
def reviveNoneWrong : ChangeSpec := { name := "reviveNone", fn := fun _ => fun
  | [d] => { results := [.lit (.bool false)], args := [d] }
  | _ => none }
def ReviveNoneWrongFalsely : Prop := reviveNoneRow.holds Tryz.pinned (OpenSpec.ofChange reviveNoneWrong)

/-- 'stopcocklaw17.ReviveBytes': WHATEVER THE INPUT: true; the input reads as it did. -/
def reviveBytesSpec : ChangeSpec := { name := "reviveBytes", fn := fun _ => fun
  | [d1, d2] => { results := [.lit (.bool true)], args := [d1, d2] }
  | _ => none }
def reviveBytesRow : OpenClaim := { program := "ythhgageghkbjjaagreat", sum := "ba702c0ee35aede664278e4535fd1aad8a106d77f5ae4ba873c4dcb1a9b25477", func := "stopcock/stopcocklaw17.ReviveBytes", spec := "reviveBytes", unfollowed := true, recurses := true, apart := false }
def ReviveBytesSaid : Prop := reviveBytesRow.holds Tryz.pinned (OpenSpec.ofChange reviveBytesSpec)

/-- ITS FALSE NEIGHBOUR: 'it returns false'. Refute it at one input. -/
def reviveBytesWrong : ChangeSpec := { name := "reviveBytes", fn := fun _ => fun
  | [d1, d2] => { results := [.lit (.bool false)], args := [d1, d2] }
  | _ => none }
def ReviveBytesWrongFalsely : Prop := reviveBytesRow.holds Tryz.pinned (OpenSpec.ofChange reviveBytesWrong)

/-- 'stopcocklaw17.ReviveFormats': WHATEVER THE INPUT: true; the input reads as it did. -/
def reviveFormatsSpec : ChangeSpec := { name := "reviveFormats", fn := fun _ => fun
  | [d1, d2, d3] => { results := [.lit (.bool true)], args := [d1, d2, d3] }
  | _ => none }
def reviveFormatsRow : OpenClaim := { program := "ythhgageghkbjjaagreat", sum := "ba702c0ee35aede664278e4535fd1aad8a106d77f5ae4ba873c4dcb1a9b25477", func := "stopcock/stopcocklaw17.ReviveFormats", spec := "reviveFormats", unfollowed := true, recurses := true, apart := false }
def ReviveFormatsSaid : Prop := reviveFormatsRow.holds Tryz.pinned (OpenSpec.ofChange reviveFormatsSpec)

/-- ITS FALSE NEIGHBOUR: 'it returns false'. Refute it at one input. -/
def reviveFormatsWrong : ChangeSpec := { name := "reviveFormats", fn := fun _ => fun
  | [d1, d2, d3] => { results := [.lit (.bool false)], args := [d1, d2, d3] }
  | _ => none }
def ReviveFormatsWrongFalsely : Prop := reviveFormatsRow.holds Tryz.pinned (OpenSpec.ofChange reviveFormatsWrong)

/- THE SECOND FORM. 'bulk': how many values and letters a reading holds, each counted each time it is reached (what is shared counts as often as it is met; a slice's spare places count too). A statement '..UptoSaid' is the law's where the arguments, and the package variables that the reading takes, are together of bulk at most 1048576: NARROWER than '..Said'. Prove '..Said' where nothing that the law and all that it calls make is longer than what came in: it says more and counts as full. Else prove '..UptoSaid'. A law counts once. -/
mutual
def uptoBulk {H : Type} : DataW H → Nat
  | .lit (.string bytes) => bytes.length + 1
  | .lit _ => 1
  | .nil => 1
  | .ptr d => uptoBulk d + 1
  | .slice elems spare => uptoBulkAll elems + uptoBulkAll spare + 1
  | .agg parts => uptoBulkAll parts + 1
  | .iface _ d => uptoBulk d + 1
  | .map entries => uptoBulkEntries entries + 1
  | .held _ => 1
def uptoBulkAll {H : Type} : List (DataW H) → Nat
  | [] => 0
  | d :: r => uptoBulk d + uptoBulkAll r
def uptoBulkEntries {H : Type} : List (Lit × DataW H) → Nat
  | [] => 0
  | x :: r => uptoBulkEntry x + uptoBulkEntries r
def uptoBulkEntry {H : Type} : Lit × DataW H → Nat
  | (.string bytes, d) => bytes.length + uptoBulk d + 1
  | (_, d) => uptoBulk d + 1
 end
def uptoSmall : (H : Type) → List (DataW H) → Bool := fun _ ds => decide (uptoBulkAll ds ≤ 1048576)
def OpenSpec.upto (s : _root_.Go.ChangeSpec) : _root_.Go.OpenSpec := { _root_.Go.OpenSpec.ofChange s with cond := some uptoSmall }

/-- 'stopcocklaw17.ReviveNone', WHERE WHAT IT READS IS OF BULK AT MOST 1048576: true; the input reads as it did. -/
def reviveNoneUptoRow : OpenClaim := { program := "ythhgageghkbjjaagreat", sum := "ba702c0ee35aede664278e4535fd1aad8a106d77f5ae4ba873c4dcb1a9b25477", func := "stopcock/stopcocklaw17.ReviveNone", spec := "reviveNone", unfollowed := true, recurses := true, apart := false, narrowed := true }
def ReviveNoneUptoSaid : Prop := reviveNoneUptoRow.holds Tryz.pinned (OpenSpec.upto reviveNoneSpec)

/-- 'stopcocklaw17.ReviveBytes', WHERE WHAT IT READS IS OF BULK AT MOST 1048576: true; the input reads as it did. -/
def reviveBytesUptoRow : OpenClaim := { program := "ythhgageghkbjjaagreat", sum := "ba702c0ee35aede664278e4535fd1aad8a106d77f5ae4ba873c4dcb1a9b25477", func := "stopcock/stopcocklaw17.ReviveBytes", spec := "reviveBytes", unfollowed := true, recurses := true, apart := false, narrowed := true }
def ReviveBytesUptoSaid : Prop := reviveBytesUptoRow.holds Tryz.pinned (OpenSpec.upto reviveBytesSpec)

/-- 'stopcocklaw17.ReviveFormats', WHERE WHAT IT READS IS OF BULK AT MOST 1048576: true; the input reads as it did. -/
def reviveFormatsUptoRow : OpenClaim := { program := "ythhgageghkbjjaagreat", sum := "ba702c0ee35aede664278e4535fd1aad8a106d77f5ae4ba873c4dcb1a9b25477", func := "stopcock/stopcocklaw17.ReviveFormats", spec := "reviveFormats", unfollowed := true, recurses := true, apart := false, narrowed := true }
def ReviveFormatsUptoSaid : Prop := reviveFormatsUptoRow.holds Tryz.pinned (OpenSpec.upto reviveFormatsSpec)

end Rows
end Go.Proofs.YthhgageghkbjjaaGreat
