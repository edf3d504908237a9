/-
  No cell of these rows narrows 'for every input' (looked for: loops, veiled, ifaces, maps, wideKeys, modest, calm, conditions, laid).
  DERIVED. THE GIVEN ROWS OF THIS SEAT. 12 by the template 'for every input the law returns true; each argument reads behind the call as it read before'; 0 by the template 'total and deterministic' (their statements: YtliacfjdenfldaaTotals.lean).
  GIVEN WITH THE SEED: the statements are not yours to turn. If you find one false, say at which input.
  Laid BY PROGRAM, IN A SANDBOX (cutbox-rows.mjs): the forced cells as the released guide's own fill.sh prints them over the translation 3dba81bbf5a83543… (all of the seat's roots in one cut). By AI agents, Wed Nov 11 2026. No macro, syntax, notation, axiom, sorry.
-/
import Derived.Test.YtliacfjdenfldaaChecked
import GoSem.Claim
import GoSem.ClaimJoined
import GoSem.ClaimMapViews
import Derived.JoinedTies
import Derived.KernelRfl
namespace Go.Proofs.Ytliacfjdenfldaa
/- THE CELL 'sum', in the pinned program and in every row, IS THE sha256 OF THE DUMP (.gsa) THAT YtliacfjdenfldaaProg.lean LOADS. Nothing in Lean hashes anything: it is a label: what it is worth is what the hold of that sum in a sandbox is worth. -/
noncomputable def Try.pinned : Pinned := { name := "ytliacfjdenfldaa", sum := "3dba81bbf5a83543587d7a17ae76e24690e3e9bf82601638b3b50cf22ae907de", checked := Try.checked }
namespace Rows
def none {H : Type} : Left H := { results := [], args := [] }

/-- 'souklaw15.DialBackoff': WHATEVER THE INPUT: true; the input reads as it did. -/
def dialBackoffSpec : ChangeSpec := { name := "dialBackoff", fn := fun _ => fun
  | [d] => { results := [.lit (.bool true)], args := [d] }
  | _ => none }
def dialBackoffRow : OpenClaim := { program := "ytliacfjdenfldaa", sum := "3dba81bbf5a83543587d7a17ae76e24690e3e9bf82601638b3b50cf22ae907de", func := "souk/souklaw15.DialBackoff", spec := "dialBackoff", apart := false }
def DialBackoffSaid : Prop := dialBackoffRow.holds Try.pinned (OpenSpec.ofChange dialBackoffSpec)

/-- ITS FALSE NEIGHBOUR: 'it returns false'. Refute it at one input. -/
def dialBackoffWrong : ChangeSpec := { name := "dialBackoff", fn := fun _ => fun
  | [d] => { results := [.lit (.bool false)], args := [d] }
  | _ => none }
def DialBackoffWrongFalsely : Prop := dialBackoffRow.holds Try.pinned (OpenSpec.ofChange dialBackoffWrong)

/-- 'souklaw15.DialTicks': WHATEVER THE INPUT: true; the input reads as it did. -/
def dialTicksSpec : ChangeSpec := { name := "dialTicks", fn := fun _ => fun
  | [d] => { results := [.lit (.bool true)], args := [d] }
  | _ => none }
def dialTicksRow : OpenClaim := { program := "ytliacfjdenfldaa", sum := "3dba81bbf5a83543587d7a17ae76e24690e3e9bf82601638b3b50cf22ae907de", func := "souk/souklaw15.DialTicks", spec := "dialTicks", apart := false }
def DialTicksSaid : Prop := dialTicksRow.holds Try.pinned (OpenSpec.ofChange dialTicksSpec)

/-- ITS FALSE NEIGHBOUR: 'it returns false'. Refute it at one input. -/
def dialTicksWrong : ChangeSpec := { name := "dialTicks", fn := fun _ => fun
  | [d] => { results := [.lit (.bool false)], args := [d] }
  | _ => none }
def DialTicksWrongFalsely : Prop := dialTicksRow.holds Try.pinned (OpenSpec.ofChange dialTicksWrong)

/-- 'souklaw17.AttemptSteps': WHATEVER THE INPUT: true; the input reads as it did. -/
def attemptStepsSpec : ChangeSpec := { name := "attemptSteps", fn := fun _ => fun
  | [d1, d2, d3] => { results := [.lit (.bool true)], args := [d1, d2, d3] }
  | _ => none }
def attemptStepsRow : OpenClaim := { program := "ytliacfjdenfldaa", sum := "3dba81bbf5a83543587d7a17ae76e24690e3e9bf82601638b3b50cf22ae907de", func := "souk/souklaw17.AttemptSteps", spec := "attemptSteps", apart := false }
def AttemptStepsSaid : Prop := attemptStepsRow.holds Try.pinned (OpenSpec.ofChange attemptStepsSpec)

/-- ITS FALSE NEIGHBOUR: 'it returns false'. Refute it at one input. -/
def attemptStepsWrong : ChangeSpec := { name := "attemptSteps", fn := fun _ => fun
  | [d1, d2, d3] => { results := [.lit (.bool false)], args := [d1, d2, d3] }
  | _ => none }
def AttemptStepsWrongFalsely : Prop := attemptStepsRow.holds Try.pinned (OpenSpec.ofChange attemptStepsWrong)

/-- 'souklaw10.SoundTiers': WHATEVER THE INPUT: true; the input reads as it did. -/
def soundTiersSpec : ChangeSpec := { name := "soundTiers", fn := fun _ => fun
  | [d] => { results := [.lit (.bool true)], args := [d] }
  | _ => none }
def soundTiersRow : OpenClaim := { program := "ytliacfjdenfldaa", sum := "3dba81bbf5a83543587d7a17ae76e24690e3e9bf82601638b3b50cf22ae907de", func := "souk/souklaw10.SoundTiers", spec := "soundTiers", apart := false }
def SoundTiersSaid : Prop := soundTiersRow.holds Try.pinned (OpenSpec.ofChange soundTiersSpec)

/-- ITS FALSE NEIGHBOUR: 'it returns false'. Refute it at one input. -/
def soundTiersWrong : ChangeSpec := { name := "soundTiers", fn := fun _ => fun
  | [d] => { results := [.lit (.bool false)], args := [d] }
  | _ => none }
def SoundTiersWrongFalsely : Prop := soundTiersRow.holds Try.pinned (OpenSpec.ofChange soundTiersWrong)

/-- 'souklaw08.LexRates': WHATEVER THE INPUT: true; the input reads as it did. -/
def lexRatesSpec : ChangeSpec := { name := "lexRates", fn := fun _ => fun
  | [d] => { results := [.lit (.bool true)], args := [d] }
  | _ => none }
def lexRatesRow : OpenClaim := { program := "ytliacfjdenfldaa", sum := "3dba81bbf5a83543587d7a17ae76e24690e3e9bf82601638b3b50cf22ae907de", func := "souk/souklaw08.LexRates", spec := "lexRates", recurses := true, apart := false }
def LexRatesSaid : Prop := lexRatesRow.holds Try.pinned (OpenSpec.ofChange lexRatesSpec)

/-- ITS FALSE NEIGHBOUR: 'it returns false'. Refute it at one input. -/
def lexRatesWrong : ChangeSpec := { name := "lexRates", fn := fun _ => fun
  | [d] => { results := [.lit (.bool false)], args := [d] }
  | _ => none }
def LexRatesWrongFalsely : Prop := lexRatesRow.holds Try.pinned (OpenSpec.ofChange lexRatesWrong)

/-- 'souklaw03.OctetPuts': WHATEVER THE INPUT: true; the input reads as it did. -/
def octetPutsSpec : ChangeSpec := { name := "octetPuts", fn := fun _ => fun
  | [d] => { results := [.lit (.bool true)], args := [d] }
  | _ => none }
def octetPutsRow : OpenClaim := { program := "ytliacfjdenfldaa", sum := "3dba81bbf5a83543587d7a17ae76e24690e3e9bf82601638b3b50cf22ae907de", func := "souk/souklaw03.OctetPuts", spec := "octetPuts", apart := false }
def OctetPutsSaid : Prop := octetPutsRow.holds Try.pinned (OpenSpec.ofChange octetPutsSpec)

/-- ITS FALSE NEIGHBOUR: 'it returns false'. Refute it at one input. -/
def octetPutsWrong : ChangeSpec := { name := "octetPuts", fn := fun _ => fun
  | [d] => { results := [.lit (.bool false)], args := [d] }
  | _ => none }
def OctetPutsWrongFalsely : Prop := octetPutsRow.holds Try.pinned (OpenSpec.ofChange octetPutsWrong)

/-- 'souklaw03.OctetTakes': WHATEVER THE INPUT: true; the input reads as it did. -/
def octetTakesSpec : ChangeSpec := { name := "octetTakes", fn := fun _ => fun
  | [d1, d2] => { results := [.lit (.bool true)], args := [d1, d2] }
  | _ => none }
def octetTakesRow : OpenClaim := { program := "ytliacfjdenfldaa", sum := "3dba81bbf5a83543587d7a17ae76e24690e3e9bf82601638b3b50cf22ae907de", func := "souk/souklaw03.OctetTakes", spec := "octetTakes", apart := false }
def OctetTakesSaid : Prop := octetTakesRow.holds Try.pinned (OpenSpec.ofChange octetTakesSpec)

/-- ITS FALSE NEIGHBOUR: 'it returns false'. Refute it at one input. -/
def octetTakesWrong : ChangeSpec := { name := "octetTakes", fn := fun _ => fun
  | [d1, d2] => { results := [.lit (.bool false)], args := [d1, d2] }
  | _ => none }
def OctetTakesWrongFalsely : Prop := octetTakesRow.holds Try.pinned (OpenSpec.ofChange octetTakesWrong)

/-- 'souklaw16.GateOnce': WHATEVER THE INPUT: true; the input reads as it did. -/
def gateOnceSpec : ChangeSpec := { name := "gateOnce", fn := fun _ => fun
  | [d] => { results := [.lit (.bool true)], args := [d] }
  | _ => none }
def gateOnceRow : OpenClaim := { program := "ytliacfjdenfldaa", sum := "3dba81bbf5a83543587d7a17ae76e24690e3e9bf82601638b3b50cf22ae907de", func := "souk/souklaw16.GateOnce", spec := "gateOnce", unfollowed := true, recurses := true, apart := false }
def GateOnceSaid : Prop := gateOnceRow.holds Try.pinned (OpenSpec.ofChange gateOnceSpec)

/-- ITS FALSE NEIGHBOUR: 'it returns false'. Refute it at one input. -/
def gateOnceWrong : ChangeSpec := { name := "gateOnce", fn := fun _ => fun
  | [d] => { results := [.lit (.bool false)], args := [d] }
  | _ => none }
def GateOnceWrongFalsely : Prop := gateOnceRow.holds Try.pinned (OpenSpec.ofChange gateOnceWrong)

/-- 'souklaw14.LotsActs': WHATEVER THE INPUT: true; the input reads as it did. -/
def lotsActsSpec : ChangeSpec := { name := "lotsActs", fn := fun _ => fun
  | [d] => { results := [.lit (.bool true)], args := [d] }
  | _ => none }
def lotsActsRow : OpenClaim := { program := "ytliacfjdenfldaa", sum := "3dba81bbf5a83543587d7a17ae76e24690e3e9bf82601638b3b50cf22ae907de", func := "souk/souklaw14.LotsActs", spec := "lotsActs", apart := false }
def LotsActsSaid : Prop := lotsActsRow.holds Try.pinned (OpenSpec.ofChange lotsActsSpec)

/-- ITS FALSE NEIGHBOUR: 'it returns false'. Refute it at one input. -/
def lotsActsWrong : ChangeSpec := { name := "lotsActs", fn := fun _ => fun
  | [d] => { results := [.lit (.bool false)], args := [d] }
  | _ => none }
def LotsActsWrongFalsely : Prop := lotsActsRow.holds Try.pinned (OpenSpec.ofChange lotsActsWrong)

/-- 'souklaw16.GateAsks': WHATEVER THE INPUT: true; the input reads as it did. -/
def gateAsksSpec : ChangeSpec := { name := "gateAsks", fn := fun _ => fun
  | [d] => { results := [.lit (.bool true)], args := [d] }
  | _ => none }
def gateAsksRow : OpenClaim := { program := "ytliacfjdenfldaa", sum := "3dba81bbf5a83543587d7a17ae76e24690e3e9bf82601638b3b50cf22ae907de", func := "souk/souklaw16.GateAsks", spec := "gateAsks", unfollowed := true, recurses := true, apart := false }
def GateAsksSaid : Prop := gateAsksRow.holds Try.pinned (OpenSpec.ofChange gateAsksSpec)

/-- ITS FALSE NEIGHBOUR: 'it returns false'. Refute it at one input. -/
def gateAsksWrong : ChangeSpec := { name := "gateAsks", fn := fun _ => fun
  | [d] => { results := [.lit (.bool false)], args := [d] }
  | _ => none }
def GateAsksWrongFalsely : Prop := gateAsksRow.holds Try.pinned (OpenSpec.ofChange gateAsksWrong)

/-- 'souklaw17.AttemptOnce': WHATEVER THE INPUT: true; the input reads as it did. -/
def attemptOnceSpec : ChangeSpec := { name := "attemptOnce", fn := fun _ => fun
  | [d1, d2] => { results := [.lit (.bool true)], args := [d1, d2] }
  | _ => none }
def attemptOnceRow : OpenClaim := { program := "ytliacfjdenfldaa", sum := "3dba81bbf5a83543587d7a17ae76e24690e3e9bf82601638b3b50cf22ae907de", func := "souk/souklaw17.AttemptOnce", spec := "attemptOnce", unfollowed := true, recurses := true, apart := false }
def AttemptOnceSaid : Prop := attemptOnceRow.holds Try.pinned (OpenSpec.ofChange attemptOnceSpec)

/-- ITS FALSE NEIGHBOUR: 'it returns false'. Refute it at one input. -/
def attemptOnceWrong : ChangeSpec := { name := "attemptOnce", fn := fun _ => fun
  | [d1, d2] => { results := [.lit (.bool false)], args := [d1, d2] }
  | _ => none }
def AttemptOnceWrongFalsely : Prop := attemptOnceRow.holds Try.pinned (OpenSpec.ofChange attemptOnceWrong)

/-- 'souklaw17.AttemptEnds': WHATEVER THE INPUT: true; the input reads as it did. -/
def attemptEndsSpec : ChangeSpec := { name := "attemptEnds", fn := fun _ => fun
  | [d1, d2] => { results := [.lit (.bool true)], args := [d1, d2] }
  | _ => none }
def attemptEndsRow : OpenClaim := { program := "ytliacfjdenfldaa", sum := "3dba81bbf5a83543587d7a17ae76e24690e3e9bf82601638b3b50cf22ae907de", func := "souk/souklaw17.AttemptEnds", spec := "attemptEnds", unfollowed := true, recurses := true, apart := false }
def AttemptEndsSaid : Prop := attemptEndsRow.holds Try.pinned (OpenSpec.ofChange attemptEndsSpec)

/-- ITS FALSE NEIGHBOUR: 'it returns false'. Refute it at one input. -/
def attemptEndsWrong : ChangeSpec := { name := "attemptEnds", fn := fun _ => fun
  | [d1, d2] => { results := [.lit (.bool false)], args := [d1, d2] }
  | _ => none }
def AttemptEndsWrongFalsely : Prop := attemptEndsRow.holds Try.pinned (OpenSpec.ofChange attemptEndsWrong)

/- THE SECOND FORM. 'bulk': how many values and letters a reading holds, each counted each time it is reached (what is shared counts as often as it is met; a slice's spare places count too). A statement '..UptoSaid' is the law's where the arguments, and the package variables that the reading takes, are together of bulk at most 1048576: NARROWER than '..Said'. Prove '..Said' where nothing that the law and all that it calls make is longer than what came in: it says more and counts as full. Else prove '..UptoSaid'. A law counts once. -/
mutual
def uptoBulk {H : Type} : DataW H → Nat
  | .lit (.string bytes) => bytes.length + 1
  | .lit _ => 1
  | .nil => 1
  | .ptr d => uptoBulk d + 1
  | .slice elems spare => uptoBulkAll elems + uptoBulkAll spare + 1
  | .agg parts => uptoBulkAll parts + 1
  | .iface _ d => uptoBulk d + 1
  | .map entries => uptoBulkEntries entries + 1
  | .held _ => 1
def uptoBulkAll {H : Type} : List (DataW H) → Nat
  | [] => 0
  | d :: r => uptoBulk d + uptoBulkAll r
def uptoBulkEntries {H : Type} : List (Lit × DataW H) → Nat
  | [] => 0
  | x :: r => uptoBulkEntry x + uptoBulkEntries r
def uptoBulkEntry {H : Type} : Lit × DataW H → Nat
  | (.string bytes, d) => bytes.length + uptoBulk d + 1
  | (_, d) => uptoBulk d + 1
 end
def uptoSmall : (H : Type) → List (DataW H) → Bool := fun _ ds => decide (uptoBulkAll ds ≤ 1048576)
def OpenSpec.upto (s : _root_.Go.ChangeSpec) : _root_.Go.OpenSpec := { _root_.Go.OpenSpec.ofChange s with cond := some uptoSmall }

/-- 'souklaw15.DialBackoff', WHERE WHAT IT READS IS OF BULK AT MOST 1048576: true; the input reads as it did. -/
def dialBackoffUptoRow : OpenClaim := { program := "ytliacfjdenfldaa", sum := "3dba81bbf5a83543587d7a17ae76e24690e3e9bf82601638b3b50cf22ae907de", func := "souk/souklaw15.DialBackoff", spec := "dialBackoff", apart := false, narrowed := true }
def DialBackoffUptoSaid : Prop := dialBackoffUptoRow.holds Try.pinned (OpenSpec.upto dialBackoffSpec)

/-- 'souklaw15.DialTicks', WHERE WHAT IT READS IS OF BULK AT MOST 1048576: true; the input reads as it did. -/
def dialTicksUptoRow : OpenClaim := { program := "ytliacfjdenfldaa", sum := "3dba81bbf5a83543587d7a17ae76e24690e3e9bf82601638b3b50cf22ae907de", func := "souk/souklaw15.DialTicks", spec := "dialTicks", apart := false, narrowed := true }
def DialTicksUptoSaid : Prop := dialTicksUptoRow.holds Try.pinned (OpenSpec.upto dialTicksSpec)

/-- 'souklaw17.AttemptSteps', WHERE WHAT IT READS IS OF BULK AT MOST 1048576: true; the input reads as it did. -/
def attemptStepsUptoRow : OpenClaim := { program := "ytliacfjdenfldaa", sum := "3dba81bbf5a83543587d7a17ae76e24690e3e9bf82601638b3b50cf22ae907de", func := "souk/souklaw17.AttemptSteps", spec := "attemptSteps", apart := false, narrowed := true }
def AttemptStepsUptoSaid : Prop := attemptStepsUptoRow.holds Try.pinned (OpenSpec.upto attemptStepsSpec)

/-- 'souklaw10.SoundTiers', WHERE WHAT IT READS IS OF BULK AT MOST 1048576: true; the input reads as it did. -/
def soundTiersUptoRow : OpenClaim := { program := "ytliacfjdenfldaa", sum := "3dba81bbf5a83543587d7a17ae76e24690e3e9bf82601638b3b50cf22ae907de", func := "souk/souklaw10.SoundTiers", spec := "soundTiers", apart := false, narrowed := true }
def SoundTiersUptoSaid : Prop := soundTiersUptoRow.holds Try.pinned (OpenSpec.upto soundTiersSpec)

/-- 'souklaw08.LexRates', WHERE WHAT IT READS IS OF BULK AT MOST 1048576: true; the input reads as it did. -/
def lexRatesUptoRow : OpenClaim := { program := "ytliacfjdenfldaa", sum := "3dba81bbf5a83543587d7a17ae76e24690e3e9bf82601638b3b50cf22ae907de", func := "souk/souklaw08.LexRates", spec := "lexRates", recurses := true, apart := false, narrowed := true }
def LexRatesUptoSaid : Prop := lexRatesUptoRow.holds Try.pinned (OpenSpec.upto lexRatesSpec)

/-- 'souklaw03.OctetPuts', WHERE WHAT IT READS IS OF BULK AT MOST 1048576: true; the input reads as it did. -/
def octetPutsUptoRow : OpenClaim := { program := "ytliacfjdenfldaa", sum := "3dba81bbf5a83543587d7a17ae76e24690e3e9bf82601638b3b50cf22ae907de", func := "souk/souklaw03.OctetPuts", spec := "octetPuts", apart := false, narrowed := true }
def OctetPutsUptoSaid : Prop := octetPutsUptoRow.holds Try.pinned (OpenSpec.upto octetPutsSpec)

/-- 'souklaw03.OctetTakes', WHERE WHAT IT READS IS OF BULK AT MOST 1048576: true; the input reads as it did. -/
def octetTakesUptoRow : OpenClaim := { program := "ytliacfjdenfldaa", sum := "3dba81bbf5a83543587d7a17ae76e24690e3e9bf82601638b3b50cf22ae907de", func := "souk/souklaw03.OctetTakes", spec := "octetTakes", apart := false, narrowed := true }
def OctetTakesUptoSaid : Prop := octetTakesUptoRow.holds Try.pinned (OpenSpec.upto octetTakesSpec)

/-- 'souklaw16.GateOnce', WHERE WHAT IT READS IS OF BULK AT MOST 1048576: true; the input reads as it did. -/
def gateOnceUptoRow : OpenClaim := { program := "ytliacfjdenfldaa", sum := "3dba81bbf5a83543587d7a17ae76e24690e3e9bf82601638b3b50cf22ae907de", func := "souk/souklaw16.GateOnce", spec := "gateOnce", unfollowed := true, recurses := true, apart := false, narrowed := true }
def GateOnceUptoSaid : Prop := gateOnceUptoRow.holds Try.pinned (OpenSpec.upto gateOnceSpec)

/-- 'souklaw14.LotsActs', WHERE WHAT IT READS IS OF BULK AT MOST 1048576: true; the input reads as it did. -/
def lotsActsUptoRow : OpenClaim := { program := "ytliacfjdenfldaa", sum := "3dba81bbf5a83543587d7a17ae76e24690e3e9bf82601638b3b50cf22ae907de", func := "souk/souklaw14.LotsActs", spec := "lotsActs", apart := false, narrowed := true }
def LotsActsUptoSaid : Prop := lotsActsUptoRow.holds Try.pinned (OpenSpec.upto lotsActsSpec)

/-- 'souklaw16.GateAsks', WHERE WHAT IT READS IS OF BULK AT MOST 1048576: true; the input reads as it did. -/
def gateAsksUptoRow : OpenClaim := { program := "ytliacfjdenfldaa", sum := "3dba81bbf5a83543587d7a17ae76e24690e3e9bf82601638b3b50cf22ae907de", func := "souk/souklaw16.GateAsks", spec := "gateAsks", unfollowed := true, recurses := true, apart := false, narrowed := true }
def GateAsksUptoSaid : Prop := gateAsksUptoRow.holds Try.pinned (OpenSpec.upto gateAsksSpec)

/-- 'souklaw17.AttemptOnce', WHERE WHAT IT READS IS OF BULK AT MOST 1048576: true; the input reads as it did. -/
def attemptOnceUptoRow : OpenClaim := { program := "ytliacfjdenfldaa", sum := "3dba81bbf5a83543587d7a17ae76e24690e3e9bf82601638b3b50cf22ae907de", func := "souk/souklaw17.AttemptOnce", spec := "attemptOnce", unfollowed := true, recurses := true, apart := false, narrowed := true }
def AttemptOnceUptoSaid : Prop := attemptOnceUptoRow.holds Try.pinned (OpenSpec.upto attemptOnceSpec)

/-- 'souklaw17.AttemptEnds', WHERE WHAT IT READS IS OF BULK AT MOST 1048576: true; the input reads as it did. -/
def attemptEndsUptoRow : OpenClaim := { program := "ytliacfjdenfldaa", sum := "3dba81bbf5a83543587d7a17ae76e24690e3e9bf82601638b3b50cf22ae907de", func := "souk/souklaw17.AttemptEnds", spec := "attemptEnds", unfollowed := true, recurses := true, apart := false, narrowed := true }
def AttemptEndsUptoSaid : Prop := attemptEndsUptoRow.holds Try.pinned (OpenSpec.upto attemptEndsSpec)

end Rows
end Go.Proofs.Ytliacfjdenfldaa
