/-
  No cell of these rows narrows 'for every input' (looked for: loops, veiled, ifaces, maps, wideKeys, modest, calm, conditions, laid).
  DERIVED. THE GIVEN ROWS OF THIS SEAT. 10 by the template 'for every input the law returns true; each argument reads behind the call as it read before'; 0 by the template 'total and deterministic' (their statements: YtckfkbmefdmedaaTotals.lean).
  GIVEN WITH THE SEED: the statements are not yours to turn. If you find one false, say at which input.
  Laid BY PROGRAM, IN A SANDBOX (cutbox-rows.mjs): the forced cells as the released guide's own fill.sh prints them over the translation f88c97f07df2838b… (all of the seat's roots in one cut). By AI agents, Wed Nov 11 2026. No macro, syntax, notation, axiom, sorry.
-/
import Derived.Test.YtckfkbmefdmedaaChecked
import GoSem.Claim
import GoSem.ClaimJoined
import GoSem.ClaimMapViews
import Derived.JoinedTies
import Derived.KernelRfl
namespace Go.Proofs.Ytckfkbmefdmedaa
/- THE CELL 'sum', in the pinned program and in every row, IS THE sha256 OF THE DUMP (.gsa) THAT YtckfkbmefdmedaaProg.lean LOADS. Nothing in Lean hashes anything: it is a label: what it is worth is what the hold of that sum in a sandbox is worth. -/
noncomputable def Try.pinned : Pinned := { name := "ytckfkbmefdmedaa", sum := "f88c97f07df2838bfc93f41df6c3822b7c997ba23e9e3ffa3f8329ca8d451459", checked := Try.checked }
namespace Rows
def none {H : Type} : Left H := { results := [], args := [] }

/-- 'souklaw04.BlockReads': WHATEVER THE INPUT: true; the input reads as it did. -/
def blockReadsSpec : ChangeSpec := { name := "blockReads", fn := fun _ => fun
  | [d1, d2] => { results := [.lit (.bool true)], args := [d1, d2] }
  | _ => none }
def blockReadsRow : OpenClaim := { program := "ytckfkbmefdmedaa", sum := "f88c97f07df2838bfc93f41df6c3822b7c997ba23e9e3ffa3f8329ca8d451459", func := "souk/souklaw04.BlockReads", spec := "blockReads", inPlace := ["internal/abi.NoEscape", "internal/bytealg.MakeNoZero"], plainKeys := false, apart := false }
def BlockReadsSaid : Prop := blockReadsRow.holds Try.pinned (OpenSpec.ofChange blockReadsSpec)

/-- ITS FALSE NEIGHBOUR: 'it returns false'. Refute it at one input. -/
def blockReadsWrong : ChangeSpec := { name := "blockReads", fn := fun _ => fun
  | [d1, d2] => { results := [.lit (.bool false)], args := [d1, d2] }
  | _ => none }
def BlockReadsWrongFalsely : Prop := blockReadsRow.holds Try.pinned (OpenSpec.ofChange blockReadsWrong)

/-- 'souklaw04.BlockTears': WHATEVER THE INPUT: true; the input reads as it did. -/
def blockTearsSpec : ChangeSpec := { name := "blockTears", fn := fun _ => fun
  | [d1, d2, d3] => { results := [.lit (.bool true)], args := [d1, d2, d3] }
  | _ => none }
def blockTearsRow : OpenClaim := { program := "ytckfkbmefdmedaa", sum := "f88c97f07df2838bfc93f41df6c3822b7c997ba23e9e3ffa3f8329ca8d451459", func := "souk/souklaw04.BlockTears", spec := "blockTears", inPlace := ["internal/abi.NoEscape", "internal/bytealg.MakeNoZero"], plainKeys := false, apart := false }
def BlockTearsSaid : Prop := blockTearsRow.holds Try.pinned (OpenSpec.ofChange blockTearsSpec)

/-- ITS FALSE NEIGHBOUR: 'it returns false'. Refute it at one input. -/
def blockTearsWrong : ChangeSpec := { name := "blockTears", fn := fun _ => fun
  | [d1, d2, d3] => { results := [.lit (.bool false)], args := [d1, d2, d3] }
  | _ => none }
def BlockTearsWrongFalsely : Prop := blockTearsRow.holds Try.pinned (OpenSpec.ofChange blockTearsWrong)

/-- 'souklaw04.BlockPacks': WHATEVER THE INPUT: true; the input reads as it did. -/
def blockPacksSpec : ChangeSpec := { name := "blockPacks", fn := fun _ => fun
  | [d1, d2, d3] => { results := [.lit (.bool true)], args := [d1, d2, d3] }
  | _ => none }
def blockPacksRow : OpenClaim := { program := "ytckfkbmefdmedaa", sum := "f88c97f07df2838bfc93f41df6c3822b7c997ba23e9e3ffa3f8329ca8d451459", func := "souk/souklaw04.BlockPacks", spec := "blockPacks", inPlace := ["internal/abi.NoEscape", "internal/bytealg.MakeNoZero"], plainKeys := false, apart := false }
def BlockPacksSaid : Prop := blockPacksRow.holds Try.pinned (OpenSpec.ofChange blockPacksSpec)

/-- ITS FALSE NEIGHBOUR: 'it returns false'. Refute it at one input. -/
def blockPacksWrong : ChangeSpec := { name := "blockPacks", fn := fun _ => fun
  | [d1, d2, d3] => { results := [.lit (.bool false)], args := [d1, d2, d3] }
  | _ => none }
def BlockPacksWrongFalsely : Prop := blockPacksRow.holds Try.pinned (OpenSpec.ofChange blockPacksWrong)

/-- 'souklaw05.DiskSynced': WHATEVER THE INPUT: true; the input reads as it did. -/
def diskSyncedSpec : ChangeSpec := { name := "diskSynced", fn := fun _ => fun
  | [d1, d2, d3] => { results := [.lit (.bool true)], args := [d1, d2, d3] }
  | _ => none }
def diskSyncedRow : OpenClaim := { program := "ytckfkbmefdmedaa", sum := "f88c97f07df2838bfc93f41df6c3822b7c997ba23e9e3ffa3f8329ca8d451459", func := "souk/souklaw05.DiskSynced", spec := "diskSynced", inPlace := ["internal/abi.NoEscape", "internal/bytealg.MakeNoZero"], unfollowed := true, recurses := true, plainKeys := false, apart := false }
def DiskSyncedSaid : Prop := diskSyncedRow.holds Try.pinned (OpenSpec.ofChange diskSyncedSpec)

/-- ITS FALSE NEIGHBOUR: 'it returns false'. Refute it at one input. -/
def diskSyncedWrong : ChangeSpec := { name := "diskSynced", fn := fun _ => fun
  | [d1, d2, d3] => { results := [.lit (.bool false)], args := [d1, d2, d3] }
  | _ => none }
def DiskSyncedWrongFalsely : Prop := diskSyncedRow.holds Try.pinned (OpenSpec.ofChange diskSyncedWrong)

/-- 'souklaw05.DiskActs': WHATEVER THE INPUT: true; the input reads as it did. -/
def diskActsSpec : ChangeSpec := { name := "diskActs", fn := fun _ => fun
  | [d1, d2] => { results := [.lit (.bool true)], args := [d1, d2] }
  | _ => none }
def diskActsRow : OpenClaim := { program := "ytckfkbmefdmedaa", sum := "f88c97f07df2838bfc93f41df6c3822b7c997ba23e9e3ffa3f8329ca8d451459", func := "souk/souklaw05.DiskActs", spec := "diskActs", inPlace := ["internal/abi.NoEscape", "internal/bytealg.MakeNoZero"], unfollowed := true, recurses := true, plainKeys := false, apart := false }
def DiskActsSaid : Prop := diskActsRow.holds Try.pinned (OpenSpec.ofChange diskActsSpec)

/-- ITS FALSE NEIGHBOUR: 'it returns false'. Refute it at one input. -/
def diskActsWrong : ChangeSpec := { name := "diskActs", fn := fun _ => fun
  | [d1, d2] => { results := [.lit (.bool false)], args := [d1, d2] }
  | _ => none }
def DiskActsWrongFalsely : Prop := diskActsRow.holds Try.pinned (OpenSpec.ofChange diskActsWrong)

/-- 'souklaw06.JournalActs': WHATEVER THE INPUT: true; the input reads as it did. -/
def journalActsSpec : ChangeSpec := { name := "journalActs", fn := fun _ => fun
  | [d1, d2] => { results := [.lit (.bool true)], args := [d1, d2] }
  | _ => none }
def journalActsRow : OpenClaim := { program := "ytckfkbmefdmedaa", sum := "f88c97f07df2838bfc93f41df6c3822b7c997ba23e9e3ffa3f8329ca8d451459", func := "souk/souklaw06.JournalActs", spec := "journalActs", inPlace := ["internal/abi.NoEscape", "internal/bytealg.MakeNoZero"], unfollowed := true, recurses := true, plainKeys := false, apart := false }
def JournalActsSaid : Prop := journalActsRow.holds Try.pinned (OpenSpec.ofChange journalActsSpec)

/-- ITS FALSE NEIGHBOUR: 'it returns false'. Refute it at one input. -/
def journalActsWrong : ChangeSpec := { name := "journalActs", fn := fun _ => fun
  | [d1, d2] => { results := [.lit (.bool false)], args := [d1, d2] }
  | _ => none }
def JournalActsWrongFalsely : Prop := journalActsRow.holds Try.pinned (OpenSpec.ofChange journalActsWrong)

/-- 'souklaw06.JournalOpens': WHATEVER THE INPUT: true; the input reads as it did. -/
def journalOpensSpec : ChangeSpec := { name := "journalOpens", fn := fun _ => fun
  | [d] => { results := [.lit (.bool true)], args := [d] }
  | _ => none }
def journalOpensRow : OpenClaim := { program := "ytckfkbmefdmedaa", sum := "f88c97f07df2838bfc93f41df6c3822b7c997ba23e9e3ffa3f8329ca8d451459", func := "souk/souklaw06.JournalOpens", spec := "journalOpens", inPlace := ["internal/abi.NoEscape", "internal/bytealg.MakeNoZero"], unfollowed := true, recurses := true, plainKeys := false, apart := false }
def JournalOpensSaid : Prop := journalOpensRow.holds Try.pinned (OpenSpec.ofChange journalOpensSpec)

/-- ITS FALSE NEIGHBOUR: 'it returns false'. Refute it at one input. -/
def journalOpensWrong : ChangeSpec := { name := "journalOpens", fn := fun _ => fun
  | [d] => { results := [.lit (.bool false)], args := [d] }
  | _ => none }
def JournalOpensWrongFalsely : Prop := journalOpensRow.holds Try.pinned (OpenSpec.ofChange journalOpensWrong)

/-- 'souklaw06.JournalFails': WHATEVER THE INPUT: true; the input reads as it did. -/
def journalFailsSpec : ChangeSpec := { name := "journalFails", fn := fun _ => fun
  | [d1, d2, d3] => { results := [.lit (.bool true)], args := [d1, d2, d3] }
  | _ => none }
def journalFailsRow : OpenClaim := { program := "ytckfkbmefdmedaa", sum := "f88c97f07df2838bfc93f41df6c3822b7c997ba23e9e3ffa3f8329ca8d451459", func := "souk/souklaw06.JournalFails", spec := "journalFails", inPlace := ["internal/abi.NoEscape", "internal/bytealg.MakeNoZero"], unfollowed := true, recurses := true, plainKeys := false, apart := false }
def JournalFailsSaid : Prop := journalFailsRow.holds Try.pinned (OpenSpec.ofChange journalFailsSpec)

/-- ITS FALSE NEIGHBOUR: 'it returns false'. Refute it at one input. -/
def journalFailsWrong : ChangeSpec := { name := "journalFails", fn := fun _ => fun
  | [d1, d2, d3] => { results := [.lit (.bool false)], args := [d1, d2, d3] }
  | _ => none }
def JournalFailsWrongFalsely : Prop := journalFailsRow.holds Try.pinned (OpenSpec.ofChange journalFailsWrong)

/-- 'souklaw07.BookEven': WHATEVER THE INPUT: true; the input reads as it did. -/
def bookEvenSpec : ChangeSpec := { name := "bookEven", fn := fun _ => fun
  | [d] => { results := [.lit (.bool true)], args := [d] }
  | _ => none }
def bookEvenRow : OpenClaim := { program := "ytckfkbmefdmedaa", sum := "f88c97f07df2838bfc93f41df6c3822b7c997ba23e9e3ffa3f8329ca8d451459", func := "souk/souklaw07.BookEven", spec := "bookEven", inPlace := ["maps.clone"], unfollowed := true, recurses := true, plainKeys := false, apart := false }
def BookEvenSaid : Prop := bookEvenRow.holds Try.pinned (OpenSpec.ofChange bookEvenSpec)

/-- ITS FALSE NEIGHBOUR: 'it returns false'. Refute it at one input. -/
def bookEvenWrong : ChangeSpec := { name := "bookEven", fn := fun _ => fun
  | [d] => { results := [.lit (.bool false)], args := [d] }
  | _ => none }
def BookEvenWrongFalsely : Prop := bookEvenRow.holds Try.pinned (OpenSpec.ofChange bookEvenWrong)

/-- 'souklaw07.BookPosts': WHATEVER THE INPUT: true; the input reads as it did. -/
def bookPostsSpec : ChangeSpec := { name := "bookPosts", fn := fun _ => fun
  | [d] => { results := [.lit (.bool true)], args := [d] }
  | _ => none }
def bookPostsRow : OpenClaim := { program := "ytckfkbmefdmedaa", sum := "f88c97f07df2838bfc93f41df6c3822b7c997ba23e9e3ffa3f8329ca8d451459", func := "souk/souklaw07.BookPosts", spec := "bookPosts", inPlace := ["maps.clone"], unfollowed := true, recurses := true, plainKeys := false, apart := false }
def BookPostsSaid : Prop := bookPostsRow.holds Try.pinned (OpenSpec.ofChange bookPostsSpec)

/-- ITS FALSE NEIGHBOUR: 'it returns false'. Refute it at one input. -/
def bookPostsWrong : ChangeSpec := { name := "bookPosts", fn := fun _ => fun
  | [d] => { results := [.lit (.bool false)], args := [d] }
  | _ => none }
def BookPostsWrongFalsely : Prop := bookPostsRow.holds Try.pinned (OpenSpec.ofChange bookPostsWrong)

/- THE SECOND FORM. 'bulk': how many values and letters a reading holds, each counted each time it is reached (what is shared counts as often as it is met; a slice's spare places count too). A statement '..UptoSaid' is the law's where the arguments, and the package variables that the reading takes, are together of bulk at most 1048576: NARROWER than '..Said'. Prove '..Said' where nothing that the law and all that it calls make is longer than what came in: it says more and counts as full. Else prove '..UptoSaid'. A law counts once. -/
mutual
def uptoBulk {H : Type} : DataW H → Nat
  | .lit (.string bytes) => bytes.length + 1
  | .lit _ => 1
  | .nil => 1
  | .ptr d => uptoBulk d + 1
  | .slice elems spare => uptoBulkAll elems + uptoBulkAll spare + 1
  | .agg parts => uptoBulkAll parts + 1
  | .iface _ d => uptoBulk d + 1
  | .map entries => uptoBulkEntries entries + 1
  | .held _ => 1
def uptoBulkAll {H : Type} : List (DataW H) → Nat
  | [] => 0
  | d :: r => uptoBulk d + uptoBulkAll r
def uptoBulkEntries {H : Type} : List (Lit × DataW H) → Nat
  | [] => 0
  | x :: r => uptoBulkEntry x + uptoBulkEntries r
def uptoBulkEntry {H : Type} : Lit × DataW H → Nat
  | (.string bytes, d) => bytes.length + uptoBulk d + 1
  | (_, d) => uptoBulk d + 1
 end
def uptoSmall : (H : Type) → List (DataW H) → Bool := fun _ ds => decide (uptoBulkAll ds ≤ 1048576)
def OpenSpec.upto (s : _root_.Go.ChangeSpec) : _root_.Go.OpenSpec := { _root_.Go.OpenSpec.ofChange s with cond := some uptoSmall }

/-- 'souklaw04.BlockReads', WHERE WHAT IT READS IS OF BULK AT MOST 1048576: true; the input reads as it did. -/
def blockReadsUptoRow : OpenClaim := { program := "ytckfkbmefdmedaa", sum := "f88c97f07df2838bfc93f41df6c3822b7c997ba23e9e3ffa3f8329ca8d451459", func := "souk/souklaw04.BlockReads", spec := "blockReads", inPlace := ["internal/abi.NoEscape", "internal/bytealg.MakeNoZero"], plainKeys := false, apart := false, narrowed := true }
def BlockReadsUptoSaid : Prop := blockReadsUptoRow.holds Try.pinned (OpenSpec.upto blockReadsSpec)

/-- 'souklaw04.BlockTears', WHERE WHAT IT READS IS OF BULK AT MOST 1048576: true; the input reads as it did. -/
def blockTearsUptoRow : OpenClaim := { program := "ytckfkbmefdmedaa", sum := "f88c97f07df2838bfc93f41df6c3822b7c997ba23e9e3ffa3f8329ca8d451459", func := "souk/souklaw04.BlockTears", spec := "blockTears", inPlace := ["internal/abi.NoEscape", "internal/bytealg.MakeNoZero"], plainKeys := false, apart := false, narrowed := true }
def BlockTearsUptoSaid : Prop := blockTearsUptoRow.holds Try.pinned (OpenSpec.upto blockTearsSpec)

/-- 'souklaw04.BlockPacks', WHERE WHAT IT READS IS OF BULK AT MOST 1048576: true; the input reads as it did. -/
def blockPacksUptoRow : OpenClaim := { program := "ytckfkbmefdmedaa", sum := "f88c97f07df2838bfc93f41df6c3822b7c997ba23e9e3ffa3f8329ca8d451459", func := "souk/souklaw04.BlockPacks", spec := "blockPacks", inPlace := ["internal/abi.NoEscape", "internal/bytealg.MakeNoZero"], plainKeys := false, apart := false, narrowed := true }
def BlockPacksUptoSaid : Prop := blockPacksUptoRow.holds Try.pinned (OpenSpec.upto blockPacksSpec)

/-- 'souklaw05.DiskSynced', WHERE WHAT IT READS IS OF BULK AT MOST 1048576: true; the input reads as it did. -/
def diskSyncedUptoRow : OpenClaim := { program := "ytckfkbmefdmedaa", sum := "f88c97f07df2838bfc93f41df6c3822b7c997ba23e9e3ffa3f8329ca8d451459", func := "souk/souklaw05.DiskSynced", spec := "diskSynced", inPlace := ["internal/abi.NoEscape", "internal/bytealg.MakeNoZero"], unfollowed := true, recurses := true, plainKeys := false, apart := false, narrowed := true }
def DiskSyncedUptoSaid : Prop := diskSyncedUptoRow.holds Try.pinned (OpenSpec.upto diskSyncedSpec)

/-- 'souklaw05.DiskActs', WHERE WHAT IT READS IS OF BULK AT MOST 1048576: true; the input reads as it did. -/
def diskActsUptoRow : OpenClaim := { program := "ytckfkbmefdmedaa", sum := "f88c97f07df2838bfc93f41df6c3822b7c997ba23e9e3ffa3f8329ca8d451459", func := "souk/souklaw05.DiskActs", spec := "diskActs", inPlace := ["internal/abi.NoEscape", "internal/bytealg.MakeNoZero"], unfollowed := true, recurses := true, plainKeys := false, apart := false, narrowed := true }
def DiskActsUptoSaid : Prop := diskActsUptoRow.holds Try.pinned (OpenSpec.upto diskActsSpec)

/-- 'souklaw06.JournalActs', WHERE WHAT IT READS IS OF BULK AT MOST 1048576: true; the input reads as it did. -/
def journalActsUptoRow : OpenClaim := { program := "ytckfkbmefdmedaa", sum := "f88c97f07df2838bfc93f41df6c3822b7c997ba23e9e3ffa3f8329ca8d451459", func := "souk/souklaw06.JournalActs", spec := "journalActs", inPlace := ["internal/abi.NoEscape", "internal/bytealg.MakeNoZero"], unfollowed := true, recurses := true, plainKeys := false, apart := false, narrowed := true }
def JournalActsUptoSaid : Prop := journalActsUptoRow.holds Try.pinned (OpenSpec.upto journalActsSpec)

/-- 'souklaw06.JournalOpens', WHERE WHAT IT READS IS OF BULK AT MOST 1048576: true; the input reads as it did. -/
def journalOpensUptoRow : OpenClaim := { program := "ytckfkbmefdmedaa", sum := "f88c97f07df2838bfc93f41df6c3822b7c997ba23e9e3ffa3f8329ca8d451459", func := "souk/souklaw06.JournalOpens", spec := "journalOpens", inPlace := ["internal/abi.NoEscape", "internal/bytealg.MakeNoZero"], unfollowed := true, recurses := true, plainKeys := false, apart := false, narrowed := true }
def JournalOpensUptoSaid : Prop := journalOpensUptoRow.holds Try.pinned (OpenSpec.upto journalOpensSpec)

/-- 'souklaw06.JournalFails', WHERE WHAT IT READS IS OF BULK AT MOST 1048576: true; the input reads as it did. -/
def journalFailsUptoRow : OpenClaim := { program := "ytckfkbmefdmedaa", sum := "f88c97f07df2838bfc93f41df6c3822b7c997ba23e9e3ffa3f8329ca8d451459", func := "souk/souklaw06.JournalFails", spec := "journalFails", inPlace := ["internal/abi.NoEscape", "internal/bytealg.MakeNoZero"], unfollowed := true, recurses := true, plainKeys := false, apart := false, narrowed := true }
def JournalFailsUptoSaid : Prop := journalFailsUptoRow.holds Try.pinned (OpenSpec.upto journalFailsSpec)

/-- 'souklaw07.BookEven', WHERE WHAT IT READS IS OF BULK AT MOST 1048576: true; the input reads as it did. -/
def bookEvenUptoRow : OpenClaim := { program := "ytckfkbmefdmedaa", sum := "f88c97f07df2838bfc93f41df6c3822b7c997ba23e9e3ffa3f8329ca8d451459", func := "souk/souklaw07.BookEven", spec := "bookEven", inPlace := ["maps.clone"], unfollowed := true, recurses := true, plainKeys := false, apart := false, narrowed := true }
def BookEvenUptoSaid : Prop := bookEvenUptoRow.holds Try.pinned (OpenSpec.upto bookEvenSpec)

/-- 'souklaw07.BookPosts', WHERE WHAT IT READS IS OF BULK AT MOST 1048576: true; the input reads as it did. -/
def bookPostsUptoRow : OpenClaim := { program := "ytckfkbmefdmedaa", sum := "f88c97f07df2838bfc93f41df6c3822b7c997ba23e9e3ffa3f8329ca8d451459", func := "souk/souklaw07.BookPosts", spec := "bookPosts", inPlace := ["maps.clone"], unfollowed := true, recurses := true, plainKeys := false, apart := false, narrowed := true }
def BookPostsUptoSaid : Prop := bookPostsUptoRow.holds Try.pinned (OpenSpec.upto bookPostsSpec)

end Rows
end Go.Proofs.Ytckfkbmefdmedaa
