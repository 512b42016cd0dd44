/-
  NARROWER THAN 'FOR EVERY INPUT', by the rows' own cells (each row's printed sentence says how): CellarHashes: laid · CellarSame: laid · CellarGoods: laid.
  DERIVED. THE GIVEN ROWS OF THIS SEAT. 3 by the template 'for every input the law returns true; each argument reads behind the call as it read before'; 0 by the template 'total and deterministic' (their statements: YtkeacmonhjhgeaaDoorTotals.lean).
  GIVEN WITH THE SEED: the statements are not yours to turn. If you find one false, say at which input.
  Laid BY PROGRAM, IN A SANDBOX (cutbox-rows.mjs): the forced cells as the released guide's own fill.sh prints them over the translation 75c860d570f6d598… (all of the seat's roots in one cut). By AI agents, Wed Nov 11 2026. No macro, syntax, notation, axiom, sorry.
-/
import Derived.Test.YtkeacmonhjhgeaaDoorChecked
import GoSem.Claim
import GoSem.ClaimJoined
import GoSem.ClaimMapViews
import Derived.JoinedTies
import Derived.KernelRfl
namespace Go.Proofs.YtkeacmonhjhgeaaDoor
/- THE CELL 'sum', in the pinned program and in every row, IS THE sha256 OF THE DUMP (.gsa) THAT YtkeacmonhjhgeaaDoorProg.lean LOADS. Nothing in Lean hashes anything: it is a label: what it is worth is what the hold of that sum in a sandbox is worth. -/
noncomputable def Tryd.pinned : Pinned := { name := "ytkeacmonhjhgeaadoor", sum := "75c860d570f6d598c646eb85ecb16c37661bbc1a89eef4ea80f85cf068532c71", checked := Tryd.checked }
namespace Rows
def none {H : Type} : Left H := { results := [], args := [] }

/- WHAT THE LISTED PACKAGE-LEVEL VARIABLES READ AS WHEN THE CALL BEGINS. Each datum BY PROGRAM (the guide's laid-datum.mjs) off the statement by which the dump's own 'gosem.cut.vars' lays the variable. In a bare row this is a premise. The card (YtkeacmonhjhgeaaDoorCards.lean) ties it to the program's text. -/
def laid_escutcheon_api_Start512 {H : Type} : DataW H := .agg [.lit (.int .u64 7640891576956012808), .lit (.int .u64 13503953896175478587), .lit (.int .u64 4354685564936845355), .lit (.int .u64 11912009170470909681), .lit (.int .u64 5840696475078001361), .lit (.int .u64 11170449401992604703), .lit (.int .u64 2270897969802886507), .lit (.int .u64 6620516959819538809)]
def laid_escutcheon_api_Turns {H : Type} : DataW H := .agg [.agg [.lit (.int .i64 0), .lit (.int .i64 1), .lit (.int .i64 2), .lit (.int .i64 3), .lit (.int .i64 4), .lit (.int .i64 5), .lit (.int .i64 6), .lit (.int .i64 7), .lit (.int .i64 8), .lit (.int .i64 9), .lit (.int .i64 10), .lit (.int .i64 11), .lit (.int .i64 12), .lit (.int .i64 13), .lit (.int .i64 14), .lit (.int .i64 15)], .agg [.lit (.int .i64 14), .lit (.int .i64 10), .lit (.int .i64 4), .lit (.int .i64 8), .lit (.int .i64 9), .lit (.int .i64 15), .lit (.int .i64 13), .lit (.int .i64 6), .lit (.int .i64 1), .lit (.int .i64 12), .lit (.int .i64 0), .lit (.int .i64 2), .lit (.int .i64 11), .lit (.int .i64 7), .lit (.int .i64 5), .lit (.int .i64 3)], .agg [.lit (.int .i64 11), .lit (.int .i64 8), .lit (.int .i64 12), .lit (.int .i64 0), .lit (.int .i64 5), .lit (.int .i64 2), .lit (.int .i64 15), .lit (.int .i64 13), .lit (.int .i64 10), .lit (.int .i64 14), .lit (.int .i64 3), .lit (.int .i64 6), .lit (.int .i64 7), .lit (.int .i64 1), .lit (.int .i64 9), .lit (.int .i64 4)], .agg [.lit (.int .i64 7), .lit (.int .i64 9), .lit (.int .i64 3), .lit (.int .i64 1), .lit (.int .i64 13), .lit (.int .i64 12), .lit (.int .i64 11), .lit (.int .i64 14), .lit (.int .i64 2), .lit (.int .i64 6), .lit (.int .i64 5), .lit (.int .i64 10), .lit (.int .i64 4), .lit (.int .i64 0), .lit (.int .i64 15), .lit (.int .i64 8)], .agg [.lit (.int .i64 9), .lit (.int .i64 0), .lit (.int .i64 5), .lit (.int .i64 7), .lit (.int .i64 2), .lit (.int .i64 4), .lit (.int .i64 10), .lit (.int .i64 15), .lit (.int .i64 14), .lit (.int .i64 1), .lit (.int .i64 11), .lit (.int .i64 12), .lit (.int .i64 6), .lit (.int .i64 8), .lit (.int .i64 3), .lit (.int .i64 13)], .agg [.lit (.int .i64 2), .lit (.int .i64 12), .lit (.int .i64 6), .lit (.int .i64 10), .lit (.int .i64 0), .lit (.int .i64 11), .lit (.int .i64 8), .lit (.int .i64 3), .lit (.int .i64 4), .lit (.int .i64 13), .lit (.int .i64 7), .lit (.int .i64 5), .lit (.int .i64 15), .lit (.int .i64 14), .lit (.int .i64 1), .lit (.int .i64 9)], .agg [.lit (.int .i64 12), .lit (.int .i64 5), .lit (.int .i64 1), .lit (.int .i64 15), .lit (.int .i64 14), .lit (.int .i64 13), .lit (.int .i64 4), .lit (.int .i64 10), .lit (.int .i64 0), .lit (.int .i64 7), .lit (.int .i64 6), .lit (.int .i64 3), .lit (.int .i64 9), .lit (.int .i64 2), .lit (.int .i64 8), .lit (.int .i64 11)], .agg [.lit (.int .i64 13), .lit (.int .i64 11), .lit (.int .i64 7), .lit (.int .i64 14), .lit (.int .i64 12), .lit (.int .i64 1), .lit (.int .i64 3), .lit (.int .i64 9), .lit (.int .i64 5), .lit (.int .i64 0), .lit (.int .i64 15), .lit (.int .i64 4), .lit (.int .i64 8), .lit (.int .i64 6), .lit (.int .i64 2), .lit (.int .i64 10)], .agg [.lit (.int .i64 6), .lit (.int .i64 15), .lit (.int .i64 14), .lit (.int .i64 9), .lit (.int .i64 11), .lit (.int .i64 3), .lit (.int .i64 0), .lit (.int .i64 8), .lit (.int .i64 12), .lit (.int .i64 2), .lit (.int .i64 13), .lit (.int .i64 7), .lit (.int .i64 1), .lit (.int .i64 4), .lit (.int .i64 10), .lit (.int .i64 5)], .agg [.lit (.int .i64 10), .lit (.int .i64 2), .lit (.int .i64 8), .lit (.int .i64 4), .lit (.int .i64 7), .lit (.int .i64 6), .lit (.int .i64 1), .lit (.int .i64 5), .lit (.int .i64 15), .lit (.int .i64 11), .lit (.int .i64 9), .lit (.int .i64 14), .lit (.int .i64 3), .lit (.int .i64 12), .lit (.int .i64 13), .lit (.int .i64 0)]]
def laid_escutcheon_blake_places {H : Type} : DataW H := .agg [.agg [.lit (.int .i64 0), .lit (.int .i64 4), .lit (.int .i64 8), .lit (.int .i64 12)], .agg [.lit (.int .i64 1), .lit (.int .i64 5), .lit (.int .i64 9), .lit (.int .i64 13)], .agg [.lit (.int .i64 2), .lit (.int .i64 6), .lit (.int .i64 10), .lit (.int .i64 14)], .agg [.lit (.int .i64 3), .lit (.int .i64 7), .lit (.int .i64 11), .lit (.int .i64 15)], .agg [.lit (.int .i64 0), .lit (.int .i64 5), .lit (.int .i64 10), .lit (.int .i64 15)], .agg [.lit (.int .i64 1), .lit (.int .i64 6), .lit (.int .i64 11), .lit (.int .i64 12)], .agg [.lit (.int .i64 2), .lit (.int .i64 7), .lit (.int .i64 8), .lit (.int .i64 13)], .agg [.lit (.int .i64 3), .lit (.int .i64 4), .lit (.int .i64 9), .lit (.int .i64 14)]]

/-- 'escutcheonlaw07.CellarHashes': WHATEVER THE INPUT: true; the input reads as it did. -/
def cellarHashesSpec : ChangeSpec := { name := "cellarHashes", fn := fun _ => fun
  | [d1, d2, d3] => { results := [.lit (.bool true)], args := [d1, d2, d3] }
  | _ => none }
def cellarHashesRow : OpenClaim := { program := "ytkeacmonhjhgeaadoor", sum := "75c860d570f6d598c646eb85ecb16c37661bbc1a89eef4ea80f85cf068532c71", func := "escutcheon/escutcheonlaw07.CellarHashes", spec := "cellarHashes", unfollowed := true, recurses := true, named := ["escutcheon/api.Start512", "escutcheon/api.Turns", "escutcheon/blake.places"], apart := false, laid := [("escutcheon/api.Start512", laid_escutcheon_api_Start512), ("escutcheon/api.Turns", laid_escutcheon_api_Turns), ("escutcheon/blake.places", laid_escutcheon_blake_places)] }
def CellarHashesSaid : Prop := cellarHashesRow.holds Tryd.pinned (OpenSpec.ofChange cellarHashesSpec)

/-- ITS FALSE NEIGHBOUR: 'it returns false'. Refute it at one input. -/
def cellarHashesWrong : ChangeSpec := { name := "cellarHashes", fn := fun _ => fun
  | [d1, d2, d3] => { results := [.lit (.bool false)], args := [d1, d2, d3] }
  | _ => none }
def CellarHashesWrongFalsely : Prop := cellarHashesRow.holds Tryd.pinned (OpenSpec.ofChange cellarHashesWrong)

/-- 'escutcheonlaw07.CellarSame': WHATEVER THE INPUT: true; the input reads as it did. -/
def cellarSameSpec : ChangeSpec := { name := "cellarSame", fn := fun _ => fun
  | [d1, d2, d3] => { results := [.lit (.bool true)], args := [d1, d2, d3] }
  | _ => none }
def cellarSameRow : OpenClaim := { program := "ytkeacmonhjhgeaadoor", sum := "75c860d570f6d598c646eb85ecb16c37661bbc1a89eef4ea80f85cf068532c71", func := "escutcheon/escutcheonlaw07.CellarSame", spec := "cellarSame", unfollowed := true, recurses := true, named := ["escutcheon/api.Start512", "escutcheon/api.Turns", "escutcheon/blake.places"], apart := false, laid := [("escutcheon/api.Start512", laid_escutcheon_api_Start512), ("escutcheon/api.Turns", laid_escutcheon_api_Turns), ("escutcheon/blake.places", laid_escutcheon_blake_places)] }
def CellarSameSaid : Prop := cellarSameRow.holds Tryd.pinned (OpenSpec.ofChange cellarSameSpec)

/-- ITS FALSE NEIGHBOUR: 'it returns false'. Refute it at one input. -/
def cellarSameWrong : ChangeSpec := { name := "cellarSame", fn := fun _ => fun
  | [d1, d2, d3] => { results := [.lit (.bool false)], args := [d1, d2, d3] }
  | _ => none }
def CellarSameWrongFalsely : Prop := cellarSameRow.holds Tryd.pinned (OpenSpec.ofChange cellarSameWrong)

/-- 'escutcheonlaw07.CellarGoods': WHATEVER THE INPUT: true; the input reads as it did. -/
def cellarGoodsSpec : ChangeSpec := { name := "cellarGoods", fn := fun _ => fun
  | [d] => { results := [.lit (.bool true)], args := [d] }
  | _ => none }
def cellarGoodsRow : OpenClaim := { program := "ytkeacmonhjhgeaadoor", sum := "75c860d570f6d598c646eb85ecb16c37661bbc1a89eef4ea80f85cf068532c71", func := "escutcheon/escutcheonlaw07.CellarGoods", spec := "cellarGoods", unfollowed := true, recurses := true, named := ["escutcheon/api.Start512", "escutcheon/api.Turns", "escutcheon/blake.places"], apart := false, laid := [("escutcheon/api.Start512", laid_escutcheon_api_Start512), ("escutcheon/api.Turns", laid_escutcheon_api_Turns), ("escutcheon/blake.places", laid_escutcheon_blake_places)] }
def CellarGoodsSaid : Prop := cellarGoodsRow.holds Tryd.pinned (OpenSpec.ofChange cellarGoodsSpec)

/-- ITS FALSE NEIGHBOUR: 'it returns false'. Refute it at one input. -/
def cellarGoodsWrong : ChangeSpec := { name := "cellarGoods", fn := fun _ => fun
  | [d] => { results := [.lit (.bool false)], args := [d] }
  | _ => none }
def CellarGoodsWrongFalsely : Prop := cellarGoodsRow.holds Tryd.pinned (OpenSpec.ofChange cellarGoodsWrong)

/- THE SECOND FORM. 'bulk': how many values and letters a reading holds, each counted each time it is reached (what is shared counts as often as it is met; a slice's spare places count too). A statement '..UptoSaid' is the law's where the arguments, and the package variables that the reading takes, are together of bulk at most 1048576: NARROWER than '..Said'. Prove '..Said' where nothing that the law and all that it calls make is longer than what came in: it says more and counts as full. Else prove '..UptoSaid'. A law counts once. -/
mutual
def uptoBulk {H : Type} : DataW H → Nat
  | .lit (.string bytes) => bytes.length + 1
  | .lit _ => 1
  | .nil => 1
  | .ptr d => uptoBulk d + 1
  | .slice elems spare => uptoBulkAll elems + uptoBulkAll spare + 1
  | .agg parts => uptoBulkAll parts + 1
  | .iface _ d => uptoBulk d + 1
  | .map entries => uptoBulkEntries entries + 1
  | .held _ => 1
def uptoBulkAll {H : Type} : List (DataW H) → Nat
  | [] => 0
  | d :: r => uptoBulk d + uptoBulkAll r
def uptoBulkEntries {H : Type} : List (Lit × DataW H) → Nat
  | [] => 0
  | x :: r => uptoBulkEntry x + uptoBulkEntries r
def uptoBulkEntry {H : Type} : Lit × DataW H → Nat
  | (.string bytes, d) => bytes.length + uptoBulk d + 1
  | (_, d) => uptoBulk d + 1
 end
def uptoSmall : (H : Type) → List (DataW H) → Bool := fun _ ds => decide (uptoBulkAll ds ≤ 1048576)
def OpenSpec.upto (s : _root_.Go.ChangeSpec) : _root_.Go.OpenSpec := { _root_.Go.OpenSpec.ofChange s with cond := some uptoSmall }

/-- 'escutcheonlaw07.CellarHashes', WHERE WHAT IT READS IS OF BULK AT MOST 1048576: true; the input reads as it did. -/
def cellarHashesUptoRow : OpenClaim := { program := "ytkeacmonhjhgeaadoor", sum := "75c860d570f6d598c646eb85ecb16c37661bbc1a89eef4ea80f85cf068532c71", func := "escutcheon/escutcheonlaw07.CellarHashes", spec := "cellarHashes", unfollowed := true, recurses := true, named := ["escutcheon/api.Start512", "escutcheon/api.Turns", "escutcheon/blake.places"], apart := false, laid := [("escutcheon/api.Start512", laid_escutcheon_api_Start512), ("escutcheon/api.Turns", laid_escutcheon_api_Turns), ("escutcheon/blake.places", laid_escutcheon_blake_places)], narrowed := true }
def CellarHashesUptoSaid : Prop := cellarHashesUptoRow.holds Tryd.pinned (OpenSpec.upto cellarHashesSpec)

/-- 'escutcheonlaw07.CellarSame', WHERE WHAT IT READS IS OF BULK AT MOST 1048576: true; the input reads as it did. -/
def cellarSameUptoRow : OpenClaim := { program := "ytkeacmonhjhgeaadoor", sum := "75c860d570f6d598c646eb85ecb16c37661bbc1a89eef4ea80f85cf068532c71", func := "escutcheon/escutcheonlaw07.CellarSame", spec := "cellarSame", unfollowed := true, recurses := true, named := ["escutcheon/api.Start512", "escutcheon/api.Turns", "escutcheon/blake.places"], apart := false, laid := [("escutcheon/api.Start512", laid_escutcheon_api_Start512), ("escutcheon/api.Turns", laid_escutcheon_api_Turns), ("escutcheon/blake.places", laid_escutcheon_blake_places)], narrowed := true }
def CellarSameUptoSaid : Prop := cellarSameUptoRow.holds Tryd.pinned (OpenSpec.upto cellarSameSpec)

/-- 'escutcheonlaw07.CellarGoods', WHERE WHAT IT READS IS OF BULK AT MOST 1048576: true; the input reads as it did. -/
def cellarGoodsUptoRow : OpenClaim := { program := "ytkeacmonhjhgeaadoor", sum := "75c860d570f6d598c646eb85ecb16c37661bbc1a89eef4ea80f85cf068532c71", func := "escutcheon/escutcheonlaw07.CellarGoods", spec := "cellarGoods", unfollowed := true, recurses := true, named := ["escutcheon/api.Start512", "escutcheon/api.Turns", "escutcheon/blake.places"], apart := false, laid := [("escutcheon/api.Start512", laid_escutcheon_api_Start512), ("escutcheon/api.Turns", laid_escutcheon_api_Turns), ("escutcheon/blake.places", laid_escutcheon_blake_places)], narrowed := true }
def CellarGoodsUptoSaid : Prop := cellarGoodsUptoRow.holds Tryd.pinned (OpenSpec.upto cellarGoodsSpec)

end Rows
end Go.Proofs.YtkeacmonhjhgeaaDoor
