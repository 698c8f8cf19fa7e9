/-
  No cell of these rows narrows 'for every input' (looked for: loops, veiled, ifaces, maps, wideKeys, modest, calm, conditions, laid).
  DERIVED. THE GIVEN ROWS OF THIS SEAT. 7 by the template 'for every input the law returns true; each argument reads behind the call as it read before'; 0 by the template 'total and deterministic' (their statements: YtfoepbjbgohhdaaTotals.lean).
  GIVEN WITH THE SEED: the statements are not yours to turn. If you find one false, say at which input.
  Laid BY PROGRAM, IN A SANDBOX (cutbox-rows.mjs): the forced cells as the released guide's own fill.sh prints them over the translation 468d3693f24af229… (all of the seat's roots in one cut). By AI agents, Wed Nov 11 2026. No macro, syntax, notation, axiom, sorry.
-/
import Derived.Test.YtfoepbjbgohhdaaChecked
import GoSem.Claim
import GoSem.ClaimJoined
import GoSem.ClaimMapViews
import Derived.JoinedTies
import Derived.KernelRfl
namespace Go.Proofs.Ytfoepbjbgohhdaa
/- THE CELL 'sum', in the pinned program and in every row, IS THE sha256 OF THE DUMP (.gsa) THAT YtfoepbjbgohhdaaProg.lean LOADS. Nothing in Lean hashes anything: it is a label: what it is worth is what the hold of that sum in a sandbox is worth. -/
noncomputable def Try.pinned : Pinned := { name := "ytfoepbjbgohhdaa", sum := "468d3693f24af229c2487f6f355b7cf86cd70ad99a4df930d4729a95a4917c94", checked := Try.checked }
namespace Rows
def none {H : Type} : Left H := { results := [], args := [] }

/-- 'exequaturlaw01.TextBack': WHATEVER THE INPUT: true; the input reads as it did. -/
def textBackSpec : ChangeSpec := { name := "textBack", fn := fun _ => fun
  | [d] => { results := [.lit (.bool true)], args := [d] }
  | _ => none }
def textBackRow : OpenClaim := { program := "ytfoepbjbgohhdaa", sum := "468d3693f24af229c2487f6f355b7cf86cd70ad99a4df930d4729a95a4917c94", func := "exequatur/exequaturlaw01.TextBack", spec := "textBack", inPlace := ["internal/bytealg.IndexByteString", "internal/abi.NoEscape"], apart := false }
def TextBackSaid : Prop := textBackRow.holds Try.pinned (OpenSpec.ofChange textBackSpec)

/-- ITS FALSE NEIGHBOUR: 'it returns false'. Refute it at one input. -/
def textBackWrong : ChangeSpec := { name := "textBack", fn := fun _ => fun
  | [d] => { results := [.lit (.bool false)], args := [d] }
  | _ => none }
def TextBackWrongFalsely : Prop := textBackRow.holds Try.pinned (OpenSpec.ofChange textBackWrong)

/-- 'exequaturlaw01.TextReads': WHATEVER THE INPUT: true; the input reads as it did. -/
def textReadsSpec : ChangeSpec := { name := "textReads", fn := fun _ => fun
  | [d] => { results := [.lit (.bool true)], args := [d] }
  | _ => none }
def textReadsRow : OpenClaim := { program := "ytfoepbjbgohhdaa", sum := "468d3693f24af229c2487f6f355b7cf86cd70ad99a4df930d4729a95a4917c94", func := "exequatur/exequaturlaw01.TextReads", spec := "textReads", inPlace := ["internal/bytealg.IndexByteString", "internal/abi.NoEscape"], apart := false }
def TextReadsSaid : Prop := textReadsRow.holds Try.pinned (OpenSpec.ofChange textReadsSpec)

/-- ITS FALSE NEIGHBOUR: 'it returns false'. Refute it at one input. -/
def textReadsWrong : ChangeSpec := { name := "textReads", fn := fun _ => fun
  | [d] => { results := [.lit (.bool false)], args := [d] }
  | _ => none }
def TextReadsWrongFalsely : Prop := textReadsRow.holds Try.pinned (OpenSpec.ofChange textReadsWrong)

/-- 'exequaturlaw01.TextEqual': WHATEVER THE INPUT: true; the input reads as it did. -/
def textEqualSpec : ChangeSpec := { name := "textEqual", fn := fun _ => fun
  | [d1, d2] => { results := [.lit (.bool true)], args := [d1, d2] }
  | _ => none }
def textEqualRow : OpenClaim := { program := "ytfoepbjbgohhdaa", sum := "468d3693f24af229c2487f6f355b7cf86cd70ad99a4df930d4729a95a4917c94", func := "exequatur/exequaturlaw01.TextEqual", spec := "textEqual", inPlace := ["internal/bytealg.IndexByteString", "internal/abi.NoEscape"], apart := false }
def TextEqualSaid : Prop := textEqualRow.holds Try.pinned (OpenSpec.ofChange textEqualSpec)

/-- ITS FALSE NEIGHBOUR: 'it returns false'. Refute it at one input. -/
def textEqualWrong : ChangeSpec := { name := "textEqual", fn := fun _ => fun
  | [d1, d2] => { results := [.lit (.bool false)], args := [d1, d2] }
  | _ => none }
def TextEqualWrongFalsely : Prop := textEqualRow.holds Try.pinned (OpenSpec.ofChange textEqualWrong)

/-- 'exequaturlaw01.TextLengths': WHATEVER THE INPUT: true; the input reads as it did. -/
def textLengthsSpec : ChangeSpec := { name := "textLengths", fn := fun _ => fun
  | [d] => { results := [.lit (.bool true)], args := [d] }
  | _ => none }
def textLengthsRow : OpenClaim := { program := "ytfoepbjbgohhdaa", sum := "468d3693f24af229c2487f6f355b7cf86cd70ad99a4df930d4729a95a4917c94", func := "exequatur/exequaturlaw01.TextLengths", spec := "textLengths", inPlace := ["internal/bytealg.IndexByteString", "internal/abi.NoEscape"], apart := false }
def TextLengthsSaid : Prop := textLengthsRow.holds Try.pinned (OpenSpec.ofChange textLengthsSpec)

/-- ITS FALSE NEIGHBOUR: 'it returns false'. Refute it at one input. -/
def textLengthsWrong : ChangeSpec := { name := "textLengths", fn := fun _ => fun
  | [d] => { results := [.lit (.bool false)], args := [d] }
  | _ => none }
def TextLengthsWrongFalsely : Prop := textLengthsRow.holds Try.pinned (OpenSpec.ofChange textLengthsWrong)

/-- 'exequaturlaw01.TextPlain': WHATEVER THE INPUT: true; the input reads as it did. -/
def textPlainSpec : ChangeSpec := { name := "textPlain", fn := fun _ => fun
  | [d1, d2] => { results := [.lit (.bool true)], args := [d1, d2] }
  | _ => none }
def textPlainRow : OpenClaim := { program := "ytfoepbjbgohhdaa", sum := "468d3693f24af229c2487f6f355b7cf86cd70ad99a4df930d4729a95a4917c94", func := "exequatur/exequaturlaw01.TextPlain", spec := "textPlain", inPlace := ["internal/bytealg.IndexByteString", "internal/abi.NoEscape"], apart := false }
def TextPlainSaid : Prop := textPlainRow.holds Try.pinned (OpenSpec.ofChange textPlainSpec)

/-- ITS FALSE NEIGHBOUR: 'it returns false'. Refute it at one input. -/
def textPlainWrong : ChangeSpec := { name := "textPlain", fn := fun _ => fun
  | [d1, d2] => { results := [.lit (.bool false)], args := [d1, d2] }
  | _ => none }
def TextPlainWrongFalsely : Prop := textPlainRow.holds Try.pinned (OpenSpec.ofChange textPlainWrong)

/-- 'exequaturlaw01.TextQuotes': WHATEVER THE INPUT: true; the input reads as it did. -/
def textQuotesSpec : ChangeSpec := { name := "textQuotes", fn := fun _ => fun
  | [d1, d2] => { results := [.lit (.bool true)], args := [d1, d2] }
  | _ => none }
def textQuotesRow : OpenClaim := { program := "ytfoepbjbgohhdaa", sum := "468d3693f24af229c2487f6f355b7cf86cd70ad99a4df930d4729a95a4917c94", func := "exequatur/exequaturlaw01.TextQuotes", spec := "textQuotes", inPlace := ["internal/bytealg.IndexByteString", "internal/abi.NoEscape"], apart := false }
def TextQuotesSaid : Prop := textQuotesRow.holds Try.pinned (OpenSpec.ofChange textQuotesSpec)

/-- ITS FALSE NEIGHBOUR: 'it returns false'. Refute it at one input. -/
def textQuotesWrong : ChangeSpec := { name := "textQuotes", fn := fun _ => fun
  | [d1, d2] => { results := [.lit (.bool false)], args := [d1, d2] }
  | _ => none }
def TextQuotesWrongFalsely : Prop := textQuotesRow.holds Try.pinned (OpenSpec.ofChange textQuotesWrong)

/-- 'exequaturlaw01.TextUnquote': WHATEVER THE INPUT: true; the input reads as it did. -/
def textUnquoteSpec : ChangeSpec := { name := "textUnquote", fn := fun _ => fun
  | [d1, d2] => { results := [.lit (.bool true)], args := [d1, d2] }
  | _ => none }
def textUnquoteRow : OpenClaim := { program := "ytfoepbjbgohhdaa", sum := "468d3693f24af229c2487f6f355b7cf86cd70ad99a4df930d4729a95a4917c94", func := "exequatur/exequaturlaw01.TextUnquote", spec := "textUnquote", inPlace := ["internal/abi.NoEscape", "internal/bytealg.IndexByteString"], apart := false }
def TextUnquoteSaid : Prop := textUnquoteRow.holds Try.pinned (OpenSpec.ofChange textUnquoteSpec)

/-- ITS FALSE NEIGHBOUR: 'it returns false'. Refute it at one input. -/
def textUnquoteWrong : ChangeSpec := { name := "textUnquote", fn := fun _ => fun
  | [d1, d2] => { results := [.lit (.bool false)], args := [d1, d2] }
  | _ => none }
def TextUnquoteWrongFalsely : Prop := textUnquoteRow.holds Try.pinned (OpenSpec.ofChange textUnquoteWrong)

/- THE SECOND FORM. 'bulk': how many values and letters a reading holds, each counted each time it is reached (what is shared counts as often as it is met; a slice's spare places count too). A statement '..UptoSaid' is the law's where the arguments, and the package variables that the reading takes, are together of bulk at most 1048576: NARROWER than '..Said'. Prove '..Said' where nothing that the law and all that it calls make is longer than what came in: it says more and counts as full. Else prove '..UptoSaid'. A law counts once. -/
mutual
def uptoBulk {H : Type} : DataW H → Nat
  | .lit (.string bytes) => bytes.length + 1
  | .lit _ => 1
  | .nil => 1
  | .ptr d => uptoBulk d + 1
  | .slice elems spare => uptoBulkAll elems + uptoBulkAll spare + 1
  | .agg parts => uptoBulkAll parts + 1
  | .iface _ d => uptoBulk d + 1
  | .map entries => uptoBulkEntries entries + 1
  | .held _ => 1
def uptoBulkAll {H : Type} : List (DataW H) → Nat
  | [] => 0
  | d :: r => uptoBulk d + uptoBulkAll r
def uptoBulkEntries {H : Type} : List (Lit × DataW H) → Nat
  | [] => 0
  | x :: r => uptoBulkEntry x + uptoBulkEntries r
def uptoBulkEntry {H : Type} : Lit × DataW H → Nat
  | (.string bytes, d) => bytes.length + uptoBulk d + 1
  | (_, d) => uptoBulk d + 1
 end
def uptoSmall : (H : Type) → List (DataW H) → Bool := fun _ ds => decide (uptoBulkAll ds ≤ 1048576)
def OpenSpec.upto (s : _root_.Go.ChangeSpec) : _root_.Go.OpenSpec := { _root_.Go.OpenSpec.ofChange s with cond := some uptoSmall }

/-- 'exequaturlaw01.TextBack', WHERE WHAT IT READS IS OF BULK AT MOST 1048576: true; the input reads as it did. -/
def textBackUptoRow : OpenClaim := { program := "ytfoepbjbgohhdaa", sum := "468d3693f24af229c2487f6f355b7cf86cd70ad99a4df930d4729a95a4917c94", func := "exequatur/exequaturlaw01.TextBack", spec := "textBack", inPlace := ["internal/bytealg.IndexByteString", "internal/abi.NoEscape"], apart := false, narrowed := true }
def TextBackUptoSaid : Prop := textBackUptoRow.holds Try.pinned (OpenSpec.upto textBackSpec)

/-- 'exequaturlaw01.TextReads', WHERE WHAT IT READS IS OF BULK AT MOST 1048576: true; the input reads as it did. -/
def textReadsUptoRow : OpenClaim := { program := "ytfoepbjbgohhdaa", sum := "468d3693f24af229c2487f6f355b7cf86cd70ad99a4df930d4729a95a4917c94", func := "exequatur/exequaturlaw01.TextReads", spec := "textReads", inPlace := ["internal/bytealg.IndexByteString", "internal/abi.NoEscape"], apart := false, narrowed := true }
def TextReadsUptoSaid : Prop := textReadsUptoRow.holds Try.pinned (OpenSpec.upto textReadsSpec)

/-- 'exequaturlaw01.TextEqual', WHERE WHAT IT READS IS OF BULK AT MOST 1048576: true; the input reads as it did. -/
def textEqualUptoRow : OpenClaim := { program := "ytfoepbjbgohhdaa", sum := "468d3693f24af229c2487f6f355b7cf86cd70ad99a4df930d4729a95a4917c94", func := "exequatur/exequaturlaw01.TextEqual", spec := "textEqual", inPlace := ["internal/bytealg.IndexByteString", "internal/abi.NoEscape"], apart := false, narrowed := true }
def TextEqualUptoSaid : Prop := textEqualUptoRow.holds Try.pinned (OpenSpec.upto textEqualSpec)

/-- 'exequaturlaw01.TextLengths', WHERE WHAT IT READS IS OF BULK AT MOST 1048576: true; the input reads as it did. -/
def textLengthsUptoRow : OpenClaim := { program := "ytfoepbjbgohhdaa", sum := "468d3693f24af229c2487f6f355b7cf86cd70ad99a4df930d4729a95a4917c94", func := "exequatur/exequaturlaw01.TextLengths", spec := "textLengths", inPlace := ["internal/bytealg.IndexByteString", "internal/abi.NoEscape"], apart := false, narrowed := true }
def TextLengthsUptoSaid : Prop := textLengthsUptoRow.holds Try.pinned (OpenSpec.upto textLengthsSpec)

/-- 'exequaturlaw01.TextPlain', WHERE WHAT IT READS IS OF BULK AT MOST 1048576: true; the input reads as it did. -/
def textPlainUptoRow : OpenClaim := { program := "ytfoepbjbgohhdaa", sum := "468d3693f24af229c2487f6f355b7cf86cd70ad99a4df930d4729a95a4917c94", func := "exequatur/exequaturlaw01.TextPlain", spec := "textPlain", inPlace := ["internal/bytealg.IndexByteString", "internal/abi.NoEscape"], apart := false, narrowed := true }
def TextPlainUptoSaid : Prop := textPlainUptoRow.holds Try.pinned (OpenSpec.upto textPlainSpec)

/-- 'exequaturlaw01.TextQuotes', WHERE WHAT IT READS IS OF BULK AT MOST 1048576: true; the input reads as it did. -/
def textQuotesUptoRow : OpenClaim := { program := "ytfoepbjbgohhdaa", sum := "468d3693f24af229c2487f6f355b7cf86cd70ad99a4df930d4729a95a4917c94", func := "exequatur/exequaturlaw01.TextQuotes", spec := "textQuotes", inPlace := ["internal/bytealg.IndexByteString", "internal/abi.NoEscape"], apart := false, narrowed := true }
def TextQuotesUptoSaid : Prop := textQuotesUptoRow.holds Try.pinned (OpenSpec.upto textQuotesSpec)

/-- 'exequaturlaw01.TextUnquote', WHERE WHAT IT READS IS OF BULK AT MOST 1048576: true; the input reads as it did. -/
def textUnquoteUptoRow : OpenClaim := { program := "ytfoepbjbgohhdaa", sum := "468d3693f24af229c2487f6f355b7cf86cd70ad99a4df930d4729a95a4917c94", func := "exequatur/exequaturlaw01.TextUnquote", spec := "textUnquote", inPlace := ["internal/abi.NoEscape", "internal/bytealg.IndexByteString"], apart := false, narrowed := true }
def TextUnquoteUptoSaid : Prop := textUnquoteUptoRow.holds Try.pinned (OpenSpec.upto textUnquoteSpec)

end Rows
end Go.Proofs.Ytfoepbjbgohhdaa
