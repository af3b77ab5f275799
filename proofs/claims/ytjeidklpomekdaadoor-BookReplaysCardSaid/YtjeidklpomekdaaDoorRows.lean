/-
  NARROWER THAN 'FOR EVERY INPUT', by the rows' own cells (each row's printed sentence says how): BookReplays: laid.
  DERIVED. THE GIVEN ROWS OF THIS SEAT. 1 by the template 'for every input the law returns true; each argument reads behind the call as it read before'; 0 by the template 'total and deterministic' (their statements: YtjeidklpomekdaaDoorTotals.lean).
  GIVEN WITH THE SEED: the statements are not yours to turn. If you find one false, say at which input.
  Laid BY PROGRAM, IN A SANDBOX (cutbox-rows.mjs): the forced cells as the released guide's own fill.sh prints them over the translation b5ecf0e80960e40f… (all of the seat's roots in one cut). By AI agents, Wed Nov 11 2026. No macro, syntax, notation, axiom, sorry.
-/
import Derived.Test.YtjeidklpomekdaaDoorChecked
import GoSem.Claim
import GoSem.ClaimJoined
import GoSem.ClaimMapViews
import Derived.JoinedTies
import Derived.KernelRfl
namespace Go.Proofs.YtjeidklpomekdaaDoor
/- THE CELL 'sum', in the pinned program and in every row, IS THE sha256 OF THE DUMP (.gsa) THAT YtjeidklpomekdaaDoorProg.lean LOADS. Nothing in Lean hashes anything: it is a label: what it is worth is what the hold of that sum in a sandbox is worth. -/
noncomputable def Tryd.pinned : Pinned := { name := "ytjeidklpomekdaadoor", sum := "b5ecf0e80960e40fe69e87a106158baf66ec665e5dd4926fe2df0d1a8b5621d6", checked := Tryd.checked }
namespace Rows
def none {H : Type} : Left H := { results := [], args := [] }

/- WHAT THE LISTED PACKAGE-LEVEL VARIABLES READ AS WHEN THE CALL BEGINS. Each datum BY PROGRAM (the guide's laid-datum.mjs) off the statement by which the dump's own 'gosem.cut.vars' lays the variable. In a bare row this is a premise. The card (YtjeidklpomekdaaDoorCards.lean) ties it to the program's text. -/
def laid_errors_errorType {H : Type} : DataW H := .iface "internal/reflectlite.rtype" (.agg [.ptr (.lit (.string [101, 114, 114, 111, 114]))])
def laid_jotter_ot_rules {H : Type} : DataW H := .iface "func table" (.agg [.agg [.iface "func" (.lit (.string [106, 111, 116, 116, 101, 114, 47, 111, 116, 46, 115, 116, 97, 121, 115])), .iface "func" (.lit (.string [106, 111, 116, 116, 101, 114, 47, 111, 116, 46, 115, 116, 97, 121, 115])), .iface "func" (.lit (.string [106, 111, 116, 116, 101, 114, 47, 111, 116, 46, 115, 116, 97, 121, 115]))], .agg [.iface "func" (.lit (.string [106, 111, 116, 116, 101, 114, 47, 111, 116, 46, 115, 116, 97, 121, 115])), .iface "func" (.lit (.string [106, 111, 116, 116, 101, 114, 47, 111, 116, 46, 105, 110, 115, 101, 114, 116, 80, 97, 115, 116, 73, 110, 115, 101, 114, 116])), .iface "func" (.lit (.string [106, 111, 116, 116, 101, 114, 47, 111, 116, 46, 105, 110, 115, 101, 114, 116, 80, 97, 115, 116, 68, 101, 108, 101, 116, 101]))], .agg [.iface "func" (.lit (.string [106, 111, 116, 116, 101, 114, 47, 111, 116, 46, 115, 116, 97, 121, 115])), .iface "func" (.lit (.string [106, 111, 116, 116, 101, 114, 47, 111, 116, 46, 100, 101, 108, 101, 116, 101, 80, 97, 115, 116, 73, 110, 115, 101, 114, 116])), .iface "func" (.lit (.string [106, 111, 116, 116, 101, 114, 47, 111, 116, 46, 100, 101, 108, 101, 116, 101, 80, 97, 115, 116, 68, 101, 108, 101, 116, 101]))]])

/-- 'jotterlaw12.BookReplays': WHATEVER THE INPUT: true; the input reads as it did. -/
def bookReplaysSpec : ChangeSpec := { name := "bookReplays", fn := fun _ => fun
  | [d1, d2] => { results := [.lit (.bool true)], args := [d1, d2] }
  | _ => none }
def bookReplaysRow : OpenClaim := { program := "ytjeidklpomekdaadoor", sum := "b5ecf0e80960e40fe69e87a106158baf66ec665e5dd4926fe2df0d1a8b5621d6", func := "jotter/jotterlaw12.BookReplays", spec := "bookReplays", inPlace := ["internal/reflectlite.ValueOf", "(internal/reflectlite.Value).Type", "(internal/reflectlite.Value).IsNil", "internal/reflectlite.TypeOf", "(internal/reflectlite.Value).Elem", "(internal/reflectlite.Value).Set"], unfollowed := true, recurses := true, named := ["jotter/ot.rules", "errors.errorType"], plainKeys := false, apart := false, laid := [("errors.errorType", laid_errors_errorType), ("jotter/ot.rules", laid_jotter_ot_rules)] }
def BookReplaysSaid : Prop := bookReplaysRow.holds Tryd.pinned (OpenSpec.ofChange bookReplaysSpec)

/-- ITS FALSE NEIGHBOUR: 'it returns false'. Refute it at one input. -/
def bookReplaysWrong : ChangeSpec := { name := "bookReplays", fn := fun _ => fun
  | [d1, d2] => { results := [.lit (.bool false)], args := [d1, d2] }
  | _ => none }
def BookReplaysWrongFalsely : Prop := bookReplaysRow.holds Tryd.pinned (OpenSpec.ofChange bookReplaysWrong)

/- THE SECOND FORM. 'bulk': how many values and letters a reading holds, each counted each time it is reached (what is shared counts as often as it is met; a slice's spare places count too). A statement '..UptoSaid' is the law's where the arguments, and the package variables that the reading takes, are together of bulk at most 1048576: NARROWER than '..Said'. Prove '..Said' where nothing that the law and all that it calls make is longer than what came in: it says more and counts as full. Else prove '..UptoSaid'. A law counts once. -/
mutual
def uptoBulk {H : Type} : DataW H → Nat
  | .lit (.string bytes) => bytes.length + 1
  | .lit _ => 1
  | .nil => 1
  | .ptr d => uptoBulk d + 1
  | .slice elems spare => uptoBulkAll elems + uptoBulkAll spare + 1
  | .agg parts => uptoBulkAll parts + 1
  | .iface _ d => uptoBulk d + 1
  | .map entries => uptoBulkEntries entries + 1
  | .held _ => 1
def uptoBulkAll {H : Type} : List (DataW H) → Nat
  | [] => 0
  | d :: r => uptoBulk d + uptoBulkAll r
def uptoBulkEntries {H : Type} : List (Lit × DataW H) → Nat
  | [] => 0
  | x :: r => uptoBulkEntry x + uptoBulkEntries r
def uptoBulkEntry {H : Type} : Lit × DataW H → Nat
  | (.string bytes, d) => bytes.length + uptoBulk d + 1
  | (_, d) => uptoBulk d + 1
 end
def uptoSmall : (H : Type) → List (DataW H) → Bool := fun _ ds => decide (uptoBulkAll ds ≤ 1048576)
def OpenSpec.upto (s : _root_.Go.ChangeSpec) : _root_.Go.OpenSpec := { _root_.Go.OpenSpec.ofChange s with cond := some uptoSmall }

/-- 'jotterlaw12.BookReplays', WHERE WHAT IT READS IS OF BULK AT MOST 1048576: true; the input reads as it did. -/
def bookReplaysUptoRow : OpenClaim := { program := "ytjeidklpomekdaadoor", sum := "b5ecf0e80960e40fe69e87a106158baf66ec665e5dd4926fe2df0d1a8b5621d6", func := "jotter/jotterlaw12.BookReplays", spec := "bookReplays", inPlace := ["internal/reflectlite.ValueOf", "(internal/reflectlite.Value).Type", "(internal/reflectlite.Value).IsNil", "internal/reflectlite.TypeOf", "(internal/reflectlite.Value).Elem", "(internal/reflectlite.Value).Set"], unfollowed := true, recurses := true, named := ["jotter/ot.rules", "errors.errorType"], plainKeys := false, apart := false, laid := [("errors.errorType", laid_errors_errorType), ("jotter/ot.rules", laid_jotter_ot_rules)], narrowed := true }
def BookReplaysUptoSaid : Prop := bookReplaysUptoRow.holds Tryd.pinned (OpenSpec.upto bookReplaysSpec)

end Rows
end Go.Proofs.YtjeidklpomekdaaDoor
