/-
  NARROWER THAN 'FOR EVERY INPUT', by the rows' own cells (each row's printed sentence says how): CoinLengths: laid · CoinSames: laid · CoinOthers: laid · CoinPacks: laid · CoinUnpacks: laid · CoinEnds: laid · CoinSplits: laid.
  DERIVED. THE GIVEN ROWS OF THIS SEAT. 7 by the template 'for every input the law returns true; each argument reads behind the call as it read before'; 0 by the template 'total and deterministic' (their statements: YtldfdofeecmhoaaDoorTotals.lean).
  GIVEN WITH THE SEED: the statements are not yours to turn. If you find one false, say at which input.
  Laid BY PROGRAM, IN A SANDBOX (cutbox-rows.mjs): the forced cells as the released guide's own fill.sh prints them over the translation d6e982e30deebef1… (all of the seat's roots in one cut). By AI agents, Wed Nov 11 2026. No macro, syntax, notation, axiom, sorry.
-/
import Derived.Test.YtldfdofeecmhoaaDoorChecked
import GoSem.PinnedTables
import GoSem.Claim
import GoSem.ClaimJoined
import GoSem.ClaimMapViews
import Derived.JoinedTies
import Derived.KernelRfl
namespace Go.Proofs.YtldfdofeecmhoaaDoor
/- THE CELL 'sum', in the pinned program and in every row, IS THE sha256 OF THE DUMP (.gsa) THAT YtldfdofeecmhoaaDoorProg.lean LOADS. Nothing in Lean hashes anything: it is a label: what it is worth is what the hold of that sum in a sandbox is worth. -/
noncomputable def Tryd.pinned : Pinned := { name := "ytldfdofeecmhoaadoor", sum := "d6e982e30deebef1239d78cfa42c3780f3b56c1f270cfcaf21e47d92b6e9ad89", checked := Tryd.checked }
namespace Rows
def none {H : Type} : Left H := { results := [], args := [] }

/- WHAT THE LISTED PACKAGE-LEVEL VARIABLES READ AS WHEN THE CALL BEGINS. Each datum BY PROGRAM (the guide's laid-datum.mjs) off the statement by which the dump's own 'gosem.cut.vars' lays the variable. In a bare row this is a premise. The card (YtldfdofeecmhoaaDoorCards.lean) ties it to the program's text. -/
def laid_escutcheon_coin_base {H : Type} : DataW H := .agg [.lit (.string [65, 66, 67, 68, 69, 70, 71, 72, 73, 74, 75, 76, 77, 78, 79, 80, 81, 82, 83, 84, 85, 86, 87, 88, 89, 90, 97, 98, 99, 100, 101, 102, 103, 104, 105, 106, 107, 108, 109, 110, 111, 112, 113, 114, 115, 116, 117, 118, 119, 120, 121, 122, 48, 49, 50, 51, 52, 53, 54, 55, 56, 57, 45, 95]), .lit (.int .i64 6)]
def laid_unicode_utf8_acceptRanges {H : Type} : DataW H := .agg [.agg [.lit (.int .u8 128), .lit (.int .u8 191)], .agg [.lit (.int .u8 160), .lit (.int .u8 191)], .agg [.lit (.int .u8 128), .lit (.int .u8 159)], .agg [.lit (.int .u8 144), .lit (.int .u8 191)], .agg [.lit (.int .u8 128), .lit (.int .u8 143)], .agg [.lit (.int .u8 0), .lit (.int .u8 0)], .agg [.lit (.int .u8 0), .lit (.int .u8 0)], .agg [.lit (.int .u8 0), .lit (.int .u8 0)], .agg [.lit (.int .u8 0), .lit (.int .u8 0)], .agg [.lit (.int .u8 0), .lit (.int .u8 0)], .agg [.lit (.int .u8 0), .lit (.int .u8 0)], .agg [.lit (.int .u8 0), .lit (.int .u8 0)], .agg [.lit (.int .u8 0), .lit (.int .u8 0)], .agg [.lit (.int .u8 0), .lit (.int .u8 0)], .agg [.lit (.int .u8 0), .lit (.int .u8 0)], .agg [.lit (.int .u8 0), .lit (.int .u8 0)]]
/-- One of Go's own tables, pinned by name: the form's constant. -/
def laid_unicode_utf8_first : DataW Unit := Go.Pinned.utf8First

/-- 'escutcheonlaw01.CoinLengths': WHATEVER THE INPUT: true; the input reads as it did. -/
def coinLengthsSpec : ChangeSpec := { name := "coinLengths", fn := fun _ => fun
  | [d1, d2] => { results := [.lit (.bool true)], args := [d1, d2] }
  | _ => none }
def coinLengthsRow : OpenClaim := { program := "ytldfdofeecmhoaadoor", sum := "d6e982e30deebef1239d78cfa42c3780f3b56c1f270cfcaf21e47d92b6e9ad89", func := "escutcheon/escutcheonlaw01.CoinLengths", spec := "coinLengths", inPlace := ["internal/abi.NoEscape"], named := ["escutcheon/coin.base"], apart := false, laid := [("escutcheon/coin.base", laid_escutcheon_coin_base)] }
def CoinLengthsSaid : Prop := coinLengthsRow.holds Tryd.pinned (OpenSpec.ofChange coinLengthsSpec)

/-- ITS FALSE NEIGHBOUR: 'it returns false'. Refute it at one input. -/
def coinLengthsWrong : ChangeSpec := { name := "coinLengths", fn := fun _ => fun
  | [d1, d2] => { results := [.lit (.bool false)], args := [d1, d2] }
  | _ => none }
def CoinLengthsWrongFalsely : Prop := coinLengthsRow.holds Tryd.pinned (OpenSpec.ofChange coinLengthsWrong)

/-- 'escutcheonlaw01.CoinSames': WHATEVER THE INPUT: true; the input reads as it did. -/
def coinSamesSpec : ChangeSpec := { name := "coinSames", fn := fun _ => fun
  | [d1, d2, d3] => { results := [.lit (.bool true)], args := [d1, d2, d3] }
  | _ => none }
def coinSamesRow : OpenClaim := { program := "ytldfdofeecmhoaadoor", sum := "d6e982e30deebef1239d78cfa42c3780f3b56c1f270cfcaf21e47d92b6e9ad89", func := "escutcheon/escutcheonlaw01.CoinSames", spec := "coinSames", inPlace := ["internal/abi.NoEscape"], named := ["escutcheon/coin.base"], apart := false, laid := [("escutcheon/coin.base", laid_escutcheon_coin_base)] }
def CoinSamesSaid : Prop := coinSamesRow.holds Tryd.pinned (OpenSpec.ofChange coinSamesSpec)

/-- ITS FALSE NEIGHBOUR: 'it returns false'. Refute it at one input. -/
def coinSamesWrong : ChangeSpec := { name := "coinSames", fn := fun _ => fun
  | [d1, d2, d3] => { results := [.lit (.bool false)], args := [d1, d2, d3] }
  | _ => none }
def CoinSamesWrongFalsely : Prop := coinSamesRow.holds Tryd.pinned (OpenSpec.ofChange coinSamesWrong)

/-- 'escutcheonlaw01.CoinOthers': WHATEVER THE INPUT: true; the input reads as it did. -/
def coinOthersSpec : ChangeSpec := { name := "coinOthers", fn := fun _ => fun
  | [d1, d2] => { results := [.lit (.bool true)], args := [d1, d2] }
  | _ => none }
def coinOthersRow : OpenClaim := { program := "ytldfdofeecmhoaadoor", sum := "d6e982e30deebef1239d78cfa42c3780f3b56c1f270cfcaf21e47d92b6e9ad89", func := "escutcheon/escutcheonlaw01.CoinOthers", spec := "coinOthers", inPlace := ["internal/abi.NoEscape"], named := ["escutcheon/coin.base"], apart := false, laid := [("escutcheon/coin.base", laid_escutcheon_coin_base)] }
def CoinOthersSaid : Prop := coinOthersRow.holds Tryd.pinned (OpenSpec.ofChange coinOthersSpec)

/-- ITS FALSE NEIGHBOUR: 'it returns false'. Refute it at one input. -/
def coinOthersWrong : ChangeSpec := { name := "coinOthers", fn := fun _ => fun
  | [d1, d2] => { results := [.lit (.bool false)], args := [d1, d2] }
  | _ => none }
def CoinOthersWrongFalsely : Prop := coinOthersRow.holds Tryd.pinned (OpenSpec.ofChange coinOthersWrong)

/-- 'escutcheonlaw01.CoinPacks': WHATEVER THE INPUT: true; the input reads as it did. -/
def coinPacksSpec : ChangeSpec := { name := "coinPacks", fn := fun _ => fun
  | [d] => { results := [.lit (.bool true)], args := [d] }
  | _ => none }
def coinPacksRow : OpenClaim := { program := "ytldfdofeecmhoaadoor", sum := "d6e982e30deebef1239d78cfa42c3780f3b56c1f270cfcaf21e47d92b6e9ad89", func := "escutcheon/escutcheonlaw01.CoinPacks", spec := "coinPacks", inPlace := ["internal/abi.NoEscape"], unfollowed := true, recurses := true, named := ["escutcheon/coin.base"], apart := false, laid := [("escutcheon/coin.base", laid_escutcheon_coin_base)] }
def CoinPacksSaid : Prop := coinPacksRow.holds Tryd.pinned (OpenSpec.ofChange coinPacksSpec)

/-- ITS FALSE NEIGHBOUR: 'it returns false'. Refute it at one input. -/
def coinPacksWrong : ChangeSpec := { name := "coinPacks", fn := fun _ => fun
  | [d] => { results := [.lit (.bool false)], args := [d] }
  | _ => none }
def CoinPacksWrongFalsely : Prop := coinPacksRow.holds Tryd.pinned (OpenSpec.ofChange coinPacksWrong)

/-- 'escutcheonlaw01.CoinUnpacks': WHATEVER THE INPUT: true; the input reads as it did. -/
def coinUnpacksSpec : ChangeSpec := { name := "coinUnpacks", fn := fun _ => fun
  | [d] => { results := [.lit (.bool true)], args := [d] }
  | _ => none }
def coinUnpacksRow : OpenClaim := { program := "ytldfdofeecmhoaadoor", sum := "d6e982e30deebef1239d78cfa42c3780f3b56c1f270cfcaf21e47d92b6e9ad89", func := "escutcheon/escutcheonlaw01.CoinUnpacks", spec := "coinUnpacks", inPlace := ["internal/abi.NoEscape"], unfollowed := true, recurses := true, named := ["escutcheon/coin.base"], apart := false, laid := [("escutcheon/coin.base", laid_escutcheon_coin_base)] }
def CoinUnpacksSaid : Prop := coinUnpacksRow.holds Tryd.pinned (OpenSpec.ofChange coinUnpacksSpec)

/-- ITS FALSE NEIGHBOUR: 'it returns false'. Refute it at one input. -/
def coinUnpacksWrong : ChangeSpec := { name := "coinUnpacks", fn := fun _ => fun
  | [d] => { results := [.lit (.bool false)], args := [d] }
  | _ => none }
def CoinUnpacksWrongFalsely : Prop := coinUnpacksRow.holds Tryd.pinned (OpenSpec.ofChange coinUnpacksWrong)

/-- 'escutcheonlaw01.CoinEnds': WHATEVER THE INPUT: true; the input reads as it did. -/
def coinEndsSpec : ChangeSpec := { name := "coinEnds", fn := fun _ => fun
  | [d1, d2, d3] => { results := [.lit (.bool true)], args := [d1, d2, d3] }
  | _ => none }
def coinEndsRow : OpenClaim := { program := "ytldfdofeecmhoaadoor", sum := "d6e982e30deebef1239d78cfa42c3780f3b56c1f270cfcaf21e47d92b6e9ad89", func := "escutcheon/escutcheonlaw01.CoinEnds", spec := "coinEnds", inPlace := ["internal/abi.NoEscape"], unfollowed := true, recurses := true, named := ["escutcheon/coin.base"], apart := false, laid := [("escutcheon/coin.base", laid_escutcheon_coin_base)] }
def CoinEndsSaid : Prop := coinEndsRow.holds Tryd.pinned (OpenSpec.ofChange coinEndsSpec)

/-- ITS FALSE NEIGHBOUR: 'it returns false'. Refute it at one input. -/
def coinEndsWrong : ChangeSpec := { name := "coinEnds", fn := fun _ => fun
  | [d1, d2, d3] => { results := [.lit (.bool false)], args := [d1, d2, d3] }
  | _ => none }
def CoinEndsWrongFalsely : Prop := coinEndsRow.holds Tryd.pinned (OpenSpec.ofChange coinEndsWrong)

/-- 'escutcheonlaw01.CoinSplits': WHATEVER THE INPUT: true; the input reads as it did. -/
def coinSplitsSpec : ChangeSpec := { name := "coinSplits", fn := fun _ => fun
  | [d1, d2, d3] => { results := [.lit (.bool true)], args := [d1, d2, d3] }
  | _ => none }
def coinSplitsRow : OpenClaim := { program := "ytldfdofeecmhoaadoor", sum := "d6e982e30deebef1239d78cfa42c3780f3b56c1f270cfcaf21e47d92b6e9ad89", func := "escutcheon/escutcheonlaw01.CoinSplits", spec := "coinSplits", inPlace := ["internal/abi.NoEscape", "internal/bytealg.CountString", "internal/bytealg.IndexByteString", "internal/bytealg.IndexString"], named := ["escutcheon/coin.base", "internal/bytealg.MaxLen", "unicode/utf8.first", "unicode/utf8.acceptRanges"], apart := false, laid := [("unicode/utf8.acceptRanges", laid_unicode_utf8_acceptRanges), ("escutcheon/coin.base", laid_escutcheon_coin_base), ("unicode/utf8.first", laid_unicode_utf8_first)] }
def CoinSplitsSaid : Prop := coinSplitsRow.holds Tryd.pinned (OpenSpec.ofChange coinSplitsSpec)

/-- ITS FALSE NEIGHBOUR: 'it returns false'. Refute it at one input. -/
def coinSplitsWrong : ChangeSpec := { name := "coinSplits", fn := fun _ => fun
  | [d1, d2, d3] => { results := [.lit (.bool false)], args := [d1, d2, d3] }
  | _ => none }
def CoinSplitsWrongFalsely : Prop := coinSplitsRow.holds Tryd.pinned (OpenSpec.ofChange coinSplitsWrong)

/- THE SECOND FORM. 'bulk': how many values and letters a reading holds, each counted each time it is reached (what is shared counts as often as it is met; a slice's spare places count too). A statement '..UptoSaid' is the law's where the arguments, and the package variables that the reading takes, are together of bulk at most 1048576: NARROWER than '..Said'. Prove '..Said' where nothing that the law and all that it calls make is longer than what came in: it says more and counts as full. Else prove '..UptoSaid'. A law counts once. -/
mutual
def uptoBulk {H : Type} : DataW H → Nat
  | .lit (.string bytes) => bytes.length + 1
  | .lit _ => 1
  | .nil => 1
  | .ptr d => uptoBulk d + 1
  | .slice elems spare => uptoBulkAll elems + uptoBulkAll spare + 1
  | .agg parts => uptoBulkAll parts + 1
  | .iface _ d => uptoBulk d + 1
  | .map entries => uptoBulkEntries entries + 1
  | .held _ => 1
def uptoBulkAll {H : Type} : List (DataW H) → Nat
  | [] => 0
  | d :: r => uptoBulk d + uptoBulkAll r
def uptoBulkEntries {H : Type} : List (Lit × DataW H) → Nat
  | [] => 0
  | x :: r => uptoBulkEntry x + uptoBulkEntries r
def uptoBulkEntry {H : Type} : Lit × DataW H → Nat
  | (.string bytes, d) => bytes.length + uptoBulk d + 1
  | (_, d) => uptoBulk d + 1
 end
def uptoSmall : (H : Type) → List (DataW H) → Bool := fun _ ds => decide (uptoBulkAll ds ≤ 1048576)
def OpenSpec.upto (s : _root_.Go.ChangeSpec) : _root_.Go.OpenSpec := { _root_.Go.OpenSpec.ofChange s with cond := some uptoSmall }

/-- 'escutcheonlaw01.CoinLengths', WHERE WHAT IT READS IS OF BULK AT MOST 1048576: true; the input reads as it did. -/
def coinLengthsUptoRow : OpenClaim := { program := "ytldfdofeecmhoaadoor", sum := "d6e982e30deebef1239d78cfa42c3780f3b56c1f270cfcaf21e47d92b6e9ad89", func := "escutcheon/escutcheonlaw01.CoinLengths", spec := "coinLengths", inPlace := ["internal/abi.NoEscape"], named := ["escutcheon/coin.base"], apart := false, laid := [("escutcheon/coin.base", laid_escutcheon_coin_base)], narrowed := true }
def CoinLengthsUptoSaid : Prop := coinLengthsUptoRow.holds Tryd.pinned (OpenSpec.upto coinLengthsSpec)

/-- 'escutcheonlaw01.CoinSames', WHERE WHAT IT READS IS OF BULK AT MOST 1048576: true; the input reads as it did. -/
def coinSamesUptoRow : OpenClaim := { program := "ytldfdofeecmhoaadoor", sum := "d6e982e30deebef1239d78cfa42c3780f3b56c1f270cfcaf21e47d92b6e9ad89", func := "escutcheon/escutcheonlaw01.CoinSames", spec := "coinSames", inPlace := ["internal/abi.NoEscape"], named := ["escutcheon/coin.base"], apart := false, laid := [("escutcheon/coin.base", laid_escutcheon_coin_base)], narrowed := true }
def CoinSamesUptoSaid : Prop := coinSamesUptoRow.holds Tryd.pinned (OpenSpec.upto coinSamesSpec)

/-- 'escutcheonlaw01.CoinOthers', WHERE WHAT IT READS IS OF BULK AT MOST 1048576: true; the input reads as it did. -/
def coinOthersUptoRow : OpenClaim := { program := "ytldfdofeecmhoaadoor", sum := "d6e982e30deebef1239d78cfa42c3780f3b56c1f270cfcaf21e47d92b6e9ad89", func := "escutcheon/escutcheonlaw01.CoinOthers", spec := "coinOthers", inPlace := ["internal/abi.NoEscape"], named := ["escutcheon/coin.base"], apart := false, laid := [("escutcheon/coin.base", laid_escutcheon_coin_base)], narrowed := true }
def CoinOthersUptoSaid : Prop := coinOthersUptoRow.holds Tryd.pinned (OpenSpec.upto coinOthersSpec)

/-- 'escutcheonlaw01.CoinPacks', WHERE WHAT IT READS IS OF BULK AT MOST 1048576: true; the input reads as it did. -/
def coinPacksUptoRow : OpenClaim := { program := "ytldfdofeecmhoaadoor", sum := "d6e982e30deebef1239d78cfa42c3780f3b56c1f270cfcaf21e47d92b6e9ad89", func := "escutcheon/escutcheonlaw01.CoinPacks", spec := "coinPacks", inPlace := ["internal/abi.NoEscape"], unfollowed := true, recurses := true, named := ["escutcheon/coin.base"], apart := false, laid := [("escutcheon/coin.base", laid_escutcheon_coin_base)], narrowed := true }
def CoinPacksUptoSaid : Prop := coinPacksUptoRow.holds Tryd.pinned (OpenSpec.upto coinPacksSpec)

/-- 'escutcheonlaw01.CoinUnpacks', WHERE WHAT IT READS IS OF BULK AT MOST 1048576: true; the input reads as it did. -/
def coinUnpacksUptoRow : OpenClaim := { program := "ytldfdofeecmhoaadoor", sum := "d6e982e30deebef1239d78cfa42c3780f3b56c1f270cfcaf21e47d92b6e9ad89", func := "escutcheon/escutcheonlaw01.CoinUnpacks", spec := "coinUnpacks", inPlace := ["internal/abi.NoEscape"], unfollowed := true, recurses := true, named := ["escutcheon/coin.base"], apart := false, laid := [("escutcheon/coin.base", laid_escutcheon_coin_base)], narrowed := true }
def CoinUnpacksUptoSaid : Prop := coinUnpacksUptoRow.holds Tryd.pinned (OpenSpec.upto coinUnpacksSpec)

/-- 'escutcheonlaw01.CoinEnds', WHERE WHAT IT READS IS OF BULK AT MOST 1048576: true; the input reads as it did. -/
def coinEndsUptoRow : OpenClaim := { program := "ytldfdofeecmhoaadoor", sum := "d6e982e30deebef1239d78cfa42c3780f3b56c1f270cfcaf21e47d92b6e9ad89", func := "escutcheon/escutcheonlaw01.CoinEnds", spec := "coinEnds", inPlace := ["internal/abi.NoEscape"], unfollowed := true, recurses := true, named := ["escutcheon/coin.base"], apart := false, laid := [("escutcheon/coin.base", laid_escutcheon_coin_base)], narrowed := true }
def CoinEndsUptoSaid : Prop := coinEndsUptoRow.holds Tryd.pinned (OpenSpec.upto coinEndsSpec)

/-- 'escutcheonlaw01.CoinSplits', WHERE WHAT IT READS IS OF BULK AT MOST 1048576: true; the input reads as it did. -/
def coinSplitsUptoRow : OpenClaim := { program := "ytldfdofeecmhoaadoor", sum := "d6e982e30deebef1239d78cfa42c3780f3b56c1f270cfcaf21e47d92b6e9ad89", func := "escutcheon/escutcheonlaw01.CoinSplits", spec := "coinSplits", inPlace := ["internal/abi.NoEscape", "internal/bytealg.CountString", "internal/bytealg.IndexByteString", "internal/bytealg.IndexString"], named := ["escutcheon/coin.base", "internal/bytealg.MaxLen", "unicode/utf8.first", "unicode/utf8.acceptRanges"], apart := false, laid := [("unicode/utf8.acceptRanges", laid_unicode_utf8_acceptRanges), ("escutcheon/coin.base", laid_escutcheon_coin_base), ("unicode/utf8.first", laid_unicode_utf8_first)], narrowed := true }
def CoinSplitsUptoSaid : Prop := coinSplitsUptoRow.holds Tryd.pinned (OpenSpec.upto coinSplitsSpec)

end Rows
end Go.Proofs.YtldfdofeecmhoaaDoor
