/-
  No cell of these rows narrows 'for every input' (looked for: loops, veiled, ifaces, maps, wideKeys, modest, calm, conditions, laid).
  DERIVED. THE GIVEN ROWS OF THIS SEAT. 9 by the template 'for every input the law returns true; each argument reads behind the call as it read before'; 0 by the template 'total and deterministic' (their statements: YtncnhhnbjmpomaaTotals.lean).
  GIVEN WITH THE SEED: the statements are not yours to turn. If you find one false, say at which input.
  Laid BY PROGRAM, IN A SANDBOX (cutbox-rows.mjs): the forced cells as the released guide's own fill.sh prints them over the translation 970677a155edd967… (all of the seat's roots in one cut). By AI agents, Wed Nov 11 2026. No macro, syntax, notation, axiom, sorry.
-/
import Derived.Test.YtncnhhnbjmpomaaChecked
import GoSem.Claim
import GoSem.ClaimJoined
import GoSem.ClaimMapViews
import Derived.JoinedTies
import Derived.KernelRfl
namespace Go.Proofs.Ytncnhhnbjmpomaa
/- THE CELL 'sum', in the pinned program and in every row, IS THE sha256 OF THE DUMP (.gsa) THAT YtncnhhnbjmpomaaProg.lean LOADS. Nothing in Lean hashes anything: it is a label: what it is worth is what the hold of that sum in a sandbox is worth. -/
noncomputable def Try.pinned : Pinned := { name := "ytncnhhnbjmpomaa", sum := "970677a155edd9676b651b5166c1bbd91c913984576191fe26cce8f1c7204bef", checked := Try.checked }
namespace Rows
def none {H : Type} : Left H := { results := [], args := [] }

/-- 'souklaw01.MoneySums': WHATEVER THE INPUT: true; the input reads as it did. -/
def moneySumsSpec : ChangeSpec := { name := "moneySums", fn := fun _ => fun
  | [d] => { results := [.lit (.bool true)], args := [d] }
  | _ => none }
def moneySumsRow : OpenClaim := { program := "ytncnhhnbjmpomaa", sum := "970677a155edd9676b651b5166c1bbd91c913984576191fe26cce8f1c7204bef", func := "souk/souklaw01.MoneySums", spec := "moneySums", unfollowed := true, recurses := true, named := ["math/bits.divideError", "math/bits.overflowError"], apart := false }
def MoneySumsSaid : Prop := moneySumsRow.holds Try.pinned (OpenSpec.ofChange moneySumsSpec)

/-- ITS FALSE NEIGHBOUR: 'it returns false'. Refute it at one input. -/
def moneySumsWrong : ChangeSpec := { name := "moneySums", fn := fun _ => fun
  | [d] => { results := [.lit (.bool false)], args := [d] }
  | _ => none }
def MoneySumsWrongFalsely : Prop := moneySumsRow.holds Try.pinned (OpenSpec.ofChange moneySumsWrong)

/-- 'souklaw01.MoneyDivides': WHATEVER THE INPUT: true; the input reads as it did. -/
def moneyDividesSpec : ChangeSpec := { name := "moneyDivides", fn := fun _ => fun
  | [d1, d2, d3] => { results := [.lit (.bool true)], args := [d1, d2, d3] }
  | _ => none }
def moneyDividesRow : OpenClaim := { program := "ytncnhhnbjmpomaa", sum := "970677a155edd9676b651b5166c1bbd91c913984576191fe26cce8f1c7204bef", func := "souk/souklaw01.MoneyDivides", spec := "moneyDivides", unfollowed := true, recurses := true, named := ["math/bits.divideError", "math/bits.overflowError"], apart := false }
def MoneyDividesSaid : Prop := moneyDividesRow.holds Try.pinned (OpenSpec.ofChange moneyDividesSpec)

/-- ITS FALSE NEIGHBOUR: 'it returns false'. Refute it at one input. -/
def moneyDividesWrong : ChangeSpec := { name := "moneyDivides", fn := fun _ => fun
  | [d1, d2, d3] => { results := [.lit (.bool false)], args := [d1, d2, d3] }
  | _ => none }
def MoneyDividesWrongFalsely : Prop := moneyDividesRow.holds Try.pinned (OpenSpec.ofChange moneyDividesWrong)

/-- 'souklaw01.MoneySplits': WHATEVER THE INPUT: true; the input reads as it did. -/
def moneySplitsSpec : ChangeSpec := { name := "moneySplits", fn := fun _ => fun
  | [d1, d2] => { results := [.lit (.bool true)], args := [d1, d2] }
  | _ => none }
def moneySplitsRow : OpenClaim := { program := "ytncnhhnbjmpomaa", sum := "970677a155edd9676b651b5166c1bbd91c913984576191fe26cce8f1c7204bef", func := "souk/souklaw01.MoneySplits", spec := "moneySplits", unfollowed := true, recurses := true, named := ["math/bits.divideError", "math/bits.overflowError"], apart := false }
def MoneySplitsSaid : Prop := moneySplitsRow.holds Try.pinned (OpenSpec.ofChange moneySplitsSpec)

/-- ITS FALSE NEIGHBOUR: 'it returns false'. Refute it at one input. -/
def moneySplitsWrong : ChangeSpec := { name := "moneySplits", fn := fun _ => fun
  | [d1, d2] => { results := [.lit (.bool false)], args := [d1, d2] }
  | _ => none }
def MoneySplitsWrongFalsely : Prop := moneySplitsRow.holds Try.pinned (OpenSpec.ofChange moneySplitsWrong)

/-- 'souklaw13.ClawTakes': WHATEVER THE INPUT: true; the input reads as it did. -/
def clawTakesSpec : ChangeSpec := { name := "clawTakes", fn := fun _ => fun
  | [d1, d2] => { results := [.lit (.bool true)], args := [d1, d2] }
  | _ => none }
def clawTakesRow : OpenClaim := { program := "ytncnhhnbjmpomaa", sum := "970677a155edd9676b651b5166c1bbd91c913984576191fe26cce8f1c7204bef", func := "souk/souklaw13.ClawTakes", spec := "clawTakes", unfollowed := true, recurses := true, named := ["math/bits.divideError", "math/bits.overflowError"], apart := false }
def ClawTakesSaid : Prop := clawTakesRow.holds Try.pinned (OpenSpec.ofChange clawTakesSpec)

/-- ITS FALSE NEIGHBOUR: 'it returns false'. Refute it at one input. -/
def clawTakesWrong : ChangeSpec := { name := "clawTakes", fn := fun _ => fun
  | [d1, d2] => { results := [.lit (.bool false)], args := [d1, d2] }
  | _ => none }
def ClawTakesWrongFalsely : Prop := clawTakesRow.holds Try.pinned (OpenSpec.ofChange clawTakesWrong)

/-- 'souklaw13.ClawWhole': WHATEVER THE INPUT: true; the input reads as it did. -/
def clawWholeSpec : ChangeSpec := { name := "clawWhole", fn := fun _ => fun
  | [d1, d2] => { results := [.lit (.bool true)], args := [d1, d2] }
  | _ => none }
def clawWholeRow : OpenClaim := { program := "ytncnhhnbjmpomaa", sum := "970677a155edd9676b651b5166c1bbd91c913984576191fe26cce8f1c7204bef", func := "souk/souklaw13.ClawWhole", spec := "clawWhole", unfollowed := true, recurses := true, named := ["math/bits.divideError", "math/bits.overflowError"], apart := false }
def ClawWholeSaid : Prop := clawWholeRow.holds Try.pinned (OpenSpec.ofChange clawWholeSpec)

/-- ITS FALSE NEIGHBOUR: 'it returns false'. Refute it at one input. -/
def clawWholeWrong : ChangeSpec := { name := "clawWhole", fn := fun _ => fun
  | [d1, d2] => { results := [.lit (.bool false)], args := [d1, d2] }
  | _ => none }
def ClawWholeWrongFalsely : Prop := clawWholeRow.holds Try.pinned (OpenSpec.ofChange clawWholeWrong)

/-- 'souklaw13.ClawRefunds': WHATEVER THE INPUT: true; the input reads as it did. -/
def clawRefundsSpec : ChangeSpec := { name := "clawRefunds", fn := fun _ => fun
  | [d1, d2, d3] => { results := [.lit (.bool true)], args := [d1, d2, d3] }
  | _ => none }
def clawRefundsRow : OpenClaim := { program := "ytncnhhnbjmpomaa", sum := "970677a155edd9676b651b5166c1bbd91c913984576191fe26cce8f1c7204bef", func := "souk/souklaw13.ClawRefunds", spec := "clawRefunds", unfollowed := true, recurses := true, named := ["math/bits.divideError", "math/bits.overflowError"], apart := false }
def ClawRefundsSaid : Prop := clawRefundsRow.holds Try.pinned (OpenSpec.ofChange clawRefundsSpec)

/-- ITS FALSE NEIGHBOUR: 'it returns false'. Refute it at one input. -/
def clawRefundsWrong : ChangeSpec := { name := "clawRefunds", fn := fun _ => fun
  | [d1, d2, d3] => { results := [.lit (.bool false)], args := [d1, d2, d3] }
  | _ => none }
def ClawRefundsWrongFalsely : Prop := clawRefundsRow.holds Try.pinned (OpenSpec.ofChange clawRefundsWrong)

/-- 'souklaw12.PartShares': WHATEVER THE INPUT: true; the input reads as it did. -/
def partSharesSpec : ChangeSpec := { name := "partShares", fn := fun _ => fun
  | [d1, d2, d3] => { results := [.lit (.bool true)], args := [d1, d2, d3] }
  | _ => none }
def partSharesRow : OpenClaim := { program := "ytncnhhnbjmpomaa", sum := "970677a155edd9676b651b5166c1bbd91c913984576191fe26cce8f1c7204bef", func := "souk/souklaw12.PartShares", spec := "partShares", unfollowed := true, recurses := true, named := ["math/bits.divideError", "math/bits.overflowError"], apart := false }
def PartSharesSaid : Prop := partSharesRow.holds Try.pinned (OpenSpec.ofChange partSharesSpec)

/-- ITS FALSE NEIGHBOUR: 'it returns false'. Refute it at one input. -/
def partSharesWrong : ChangeSpec := { name := "partShares", fn := fun _ => fun
  | [d1, d2, d3] => { results := [.lit (.bool false)], args := [d1, d2, d3] }
  | _ => none }
def PartSharesWrongFalsely : Prop := partSharesRow.holds Try.pinned (OpenSpec.ofChange partSharesWrong)

/-- 'souklaw12.PartRight': WHATEVER THE INPUT: true; the input reads as it did. -/
def partRightSpec : ChangeSpec := { name := "partRight", fn := fun _ => fun
  | [d] => { results := [.lit (.bool true)], args := [d] }
  | _ => none }
def partRightRow : OpenClaim := { program := "ytncnhhnbjmpomaa", sum := "970677a155edd9676b651b5166c1bbd91c913984576191fe26cce8f1c7204bef", func := "souk/souklaw12.PartRight", spec := "partRight", unfollowed := true, recurses := true, named := ["math/bits.divideError", "math/bits.overflowError"], apart := false }
def PartRightSaid : Prop := partRightRow.holds Try.pinned (OpenSpec.ofChange partRightSpec)

/-- ITS FALSE NEIGHBOUR: 'it returns false'. Refute it at one input. -/
def partRightWrong : ChangeSpec := { name := "partRight", fn := fun _ => fun
  | [d] => { results := [.lit (.bool false)], args := [d] }
  | _ => none }
def PartRightWrongFalsely : Prop := partRightRow.holds Try.pinned (OpenSpec.ofChange partRightWrong)

/-- 'souklaw11.FeeRises': WHATEVER THE INPUT: true; the input reads as it did. -/
def feeRisesSpec : ChangeSpec := { name := "feeRises", fn := fun _ => fun
  | [d1, d2, d3] => { results := [.lit (.bool true)], args := [d1, d2, d3] }
  | _ => none }
def feeRisesRow : OpenClaim := { program := "ytncnhhnbjmpomaa", sum := "970677a155edd9676b651b5166c1bbd91c913984576191fe26cce8f1c7204bef", func := "souk/souklaw11.FeeRises", spec := "feeRises", unfollowed := true, recurses := true, named := ["math/bits.divideError", "math/bits.overflowError"], apart := false }
def FeeRisesSaid : Prop := feeRisesRow.holds Try.pinned (OpenSpec.ofChange feeRisesSpec)

/-- ITS FALSE NEIGHBOUR: 'it returns false'. Refute it at one input. -/
def feeRisesWrong : ChangeSpec := { name := "feeRises", fn := fun _ => fun
  | [d1, d2, d3] => { results := [.lit (.bool false)], args := [d1, d2, d3] }
  | _ => none }
def FeeRisesWrongFalsely : Prop := feeRisesRow.holds Try.pinned (OpenSpec.ofChange feeRisesWrong)

/- THE SECOND FORM. 'bulk': how many values and letters a reading holds, each counted each time it is reached (what is shared counts as often as it is met; a slice's spare places count too). A statement '..UptoSaid' is the law's where the arguments, and the package variables that the reading takes, are together of bulk at most 1048576: NARROWER than '..Said'. Prove '..Said' where nothing that the law and all that it calls make is longer than what came in: it says more and counts as full. Else prove '..UptoSaid'. A law counts once. -/
mutual
def uptoBulk {H : Type} : DataW H → Nat
  | .lit (.string bytes) => bytes.length + 1
  | .lit _ => 1
  | .nil => 1
  | .ptr d => uptoBulk d + 1
  | .slice elems spare => uptoBulkAll elems + uptoBulkAll spare + 1
  | .agg parts => uptoBulkAll parts + 1
  | .iface _ d => uptoBulk d + 1
  | .map entries => uptoBulkEntries entries + 1
  | .held _ => 1
def uptoBulkAll {H : Type} : List (DataW H) → Nat
  | [] => 0
  | d :: r => uptoBulk d + uptoBulkAll r
def uptoBulkEntries {H : Type} : List (Lit × DataW H) → Nat
  | [] => 0
  | x :: r => uptoBulkEntry x + uptoBulkEntries r
def uptoBulkEntry {H : Type} : Lit × DataW H → Nat
  | (.string bytes, d) => bytes.length + uptoBulk d + 1
  | (_, d) => uptoBulk d + 1
 end
def uptoSmall : (H : Type) → List (DataW H) → Bool := fun _ ds => decide (uptoBulkAll ds ≤ 1048576)
def OpenSpec.upto (s : _root_.Go.ChangeSpec) : _root_.Go.OpenSpec := { _root_.Go.OpenSpec.ofChange s with cond := some uptoSmall }

/-- 'souklaw01.MoneySums', WHERE WHAT IT READS IS OF BULK AT MOST 1048576: true; the input reads as it did. -/
def moneySumsUptoRow : OpenClaim := { program := "ytncnhhnbjmpomaa", sum := "970677a155edd9676b651b5166c1bbd91c913984576191fe26cce8f1c7204bef", func := "souk/souklaw01.MoneySums", spec := "moneySums", unfollowed := true, recurses := true, named := ["math/bits.divideError", "math/bits.overflowError"], apart := false, narrowed := true }
def MoneySumsUptoSaid : Prop := moneySumsUptoRow.holds Try.pinned (OpenSpec.upto moneySumsSpec)

/-- 'souklaw01.MoneyDivides', WHERE WHAT IT READS IS OF BULK AT MOST 1048576: true; the input reads as it did. -/
def moneyDividesUptoRow : OpenClaim := { program := "ytncnhhnbjmpomaa", sum := "970677a155edd9676b651b5166c1bbd91c913984576191fe26cce8f1c7204bef", func := "souk/souklaw01.MoneyDivides", spec := "moneyDivides", unfollowed := true, recurses := true, named := ["math/bits.divideError", "math/bits.overflowError"], apart := false, narrowed := true }
def MoneyDividesUptoSaid : Prop := moneyDividesUptoRow.holds Try.pinned (OpenSpec.upto moneyDividesSpec)

/-- 'souklaw01.MoneySplits', WHERE WHAT IT READS IS OF BULK AT MOST 1048576: true; the input reads as it did. -/
def moneySplitsUptoRow : OpenClaim := { program := "ytncnhhnbjmpomaa", sum := "970677a155edd9676b651b5166c1bbd91c913984576191fe26cce8f1c7204bef", func := "souk/souklaw01.MoneySplits", spec := "moneySplits", unfollowed := true, recurses := true, named := ["math/bits.divideError", "math/bits.overflowError"], apart := false, narrowed := true }
def MoneySplitsUptoSaid : Prop := moneySplitsUptoRow.holds Try.pinned (OpenSpec.upto moneySplitsSpec)

/-- 'souklaw13.ClawTakes', WHERE WHAT IT READS IS OF BULK AT MOST 1048576: true; the input reads as it did. -/
def clawTakesUptoRow : OpenClaim := { program := "ytncnhhnbjmpomaa", sum := "970677a155edd9676b651b5166c1bbd91c913984576191fe26cce8f1c7204bef", func := "souk/souklaw13.ClawTakes", spec := "clawTakes", unfollowed := true, recurses := true, named := ["math/bits.divideError", "math/bits.overflowError"], apart := false, narrowed := true }
def ClawTakesUptoSaid : Prop := clawTakesUptoRow.holds Try.pinned (OpenSpec.upto clawTakesSpec)

/-- 'souklaw13.ClawWhole', WHERE WHAT IT READS IS OF BULK AT MOST 1048576: true; the input reads as it did. -/
def clawWholeUptoRow : OpenClaim := { program := "ytncnhhnbjmpomaa", sum := "970677a155edd9676b651b5166c1bbd91c913984576191fe26cce8f1c7204bef", func := "souk/souklaw13.ClawWhole", spec := "clawWhole", unfollowed := true, recurses := true, named := ["math/bits.divideError", "math/bits.overflowError"], apart := false, narrowed := true }
def ClawWholeUptoSaid : Prop := clawWholeUptoRow.holds Try.pinned (OpenSpec.upto clawWholeSpec)

/-- 'souklaw13.ClawRefunds', WHERE WHAT IT READS IS OF BULK AT MOST 1048576: true; the input reads as it did. -/
def clawRefundsUptoRow : OpenClaim := { program := "ytncnhhnbjmpomaa", sum := "970677a155edd9676b651b5166c1bbd91c913984576191fe26cce8f1c7204bef", func := "souk/souklaw13.ClawRefunds", spec := "clawRefunds", unfollowed := true, recurses := true, named := ["math/bits.divideError", "math/bits.overflowError"], apart := false, narrowed := true }
def ClawRefundsUptoSaid : Prop := clawRefundsUptoRow.holds Try.pinned (OpenSpec.upto clawRefundsSpec)

/-- 'souklaw12.PartShares', WHERE WHAT IT READS IS OF BULK AT MOST 1048576: true; the input reads as it did. -/
def partSharesUptoRow : OpenClaim := { program := "ytncnhhnbjmpomaa", sum := "970677a155edd9676b651b5166c1bbd91c913984576191fe26cce8f1c7204bef", func := "souk/souklaw12.PartShares", spec := "partShares", unfollowed := true, recurses := true, named := ["math/bits.divideError", "math/bits.overflowError"], apart := false, narrowed := true }
def PartSharesUptoSaid : Prop := partSharesUptoRow.holds Try.pinned (OpenSpec.upto partSharesSpec)

/-- 'souklaw12.PartRight', WHERE WHAT IT READS IS OF BULK AT MOST 1048576: true; the input reads as it did. -/
def partRightUptoRow : OpenClaim := { program := "ytncnhhnbjmpomaa", sum := "970677a155edd9676b651b5166c1bbd91c913984576191fe26cce8f1c7204bef", func := "souk/souklaw12.PartRight", spec := "partRight", unfollowed := true, recurses := true, named := ["math/bits.divideError", "math/bits.overflowError"], apart := false, narrowed := true }
def PartRightUptoSaid : Prop := partRightUptoRow.holds Try.pinned (OpenSpec.upto partRightSpec)

/-- 'souklaw11.FeeRises', WHERE WHAT IT READS IS OF BULK AT MOST 1048576: true; the input reads as it did. -/
def feeRisesUptoRow : OpenClaim := { program := "ytncnhhnbjmpomaa", sum := "970677a155edd9676b651b5166c1bbd91c913984576191fe26cce8f1c7204bef", func := "souk/souklaw11.FeeRises", spec := "feeRises", unfollowed := true, recurses := true, named := ["math/bits.divideError", "math/bits.overflowError"], apart := false, narrowed := true }
def FeeRisesUptoSaid : Prop := feeRisesUptoRow.holds Try.pinned (OpenSpec.upto feeRisesSpec)

end Rows
end Go.Proofs.Ytncnhhnbjmpomaa
