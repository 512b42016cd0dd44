/-
  NARROWER THAN 'FOR EVERY INPUT', by the rows' own cells (each row's printed sentence says how): BlakeSums: laid · BlakeLongs: laid · BlakeEdges: laid · BlakeChecks: laid · BlakeParts: laid · BlakeRanges: laid.
  DERIVED. THE GIVEN ROWS OF THIS SEAT. 6 by the template 'for every input the law returns true; each argument reads behind the call as it read before'; 0 by the template 'total and deterministic' (their statements: YtejbpfimgkpnlaaDoorTotals.lean).
  GIVEN WITH THE SEED: the statements are not yours to turn. If you find one false, say at which input.
  Laid BY PROGRAM, IN A SANDBOX (cutbox-rows.mjs): the forced cells as the released guide's own fill.sh prints them over the translation 66ec254826d26f23… (all of the seat's roots in one cut). By AI agents, Wed Nov 11 2026. No macro, syntax, notation, axiom, sorry.
-/
import Derived.Test.YtejbpfimgkpnlaaDoorChecked
import GoSem.Claim
import GoSem.ClaimJoined
import GoSem.ClaimMapViews
import Derived.JoinedTies
import Derived.KernelRfl
namespace Go.Proofs.YtejbpfimgkpnlaaDoor
/- THE CELL 'sum', in the pinned program and in every row, IS THE sha256 OF THE DUMP (.gsa) THAT YtejbpfimgkpnlaaDoorProg.lean LOADS. Nothing in Lean hashes anything: it is a label: what it is worth is what the hold of that sum in a sandbox is worth. -/
noncomputable def Tryd.pinned : Pinned := { name := "ytejbpfimgkpnlaadoor", sum := "66ec254826d26f236c3d4277d060ae072a20cdd5889b79498015eaa4287fc32f", checked := Tryd.checked }
namespace Rows
def none {H : Type} : Left H := { results := [], args := [] }

/- WHAT THE LISTED PACKAGE-LEVEL VARIABLES READ AS WHEN THE CALL BEGINS. Each datum BY PROGRAM (the guide's laid-datum.mjs) off the statement by which the dump's own 'gosem.cut.vars' lays the variable. In a bare row this is a premise. The card (YtejbpfimgkpnlaaDoorCards.lean) ties it to the program's text. -/
def laid_escutcheon_api_Start512 {H : Type} : DataW H := .agg [.lit (.int .u64 7640891576956012808), .lit (.int .u64 13503953896175478587), .lit (.int .u64 4354685564936845355), .lit (.int .u64 11912009170470909681), .lit (.int .u64 5840696475078001361), .lit (.int .u64 11170449401992604703), .lit (.int .u64 2270897969802886507), .lit (.int .u64 6620516959819538809)]
def laid_escutcheon_api_Turns {H : Type} : DataW H := .agg [.agg [.lit (.int .i64 0), .lit (.int .i64 1), .lit (.int .i64 2), .lit (.int .i64 3), .lit (.int .i64 4), .lit (.int .i64 5), .lit (.int .i64 6), .lit (.int .i64 7), .lit (.int .i64 8), .lit (.int .i64 9), .lit (.int .i64 10), .lit (.int .i64 11), .lit (.int .i64 12), .lit (.int .i64 13), .lit (.int .i64 14), .lit (.int .i64 15)], .agg [.lit (.int .i64 14), .lit (.int .i64 10), .lit (.int .i64 4), .lit (.int .i64 8), .lit (.int .i64 9), .lit (.int .i64 15), .lit (.int .i64 13), .lit (.int .i64 6), .lit (.int .i64 1), .lit (.int .i64 12), .lit (.int .i64 0), .lit (.int .i64 2), .lit (.int .i64 11), .lit (.int .i64 7), .lit (.int .i64 5), .lit (.int .i64 3)], .agg [.lit (.int .i64 11), .lit (.int .i64 8), .lit (.int .i64 12), .lit (.int .i64 0), .lit (.int .i64 5), .lit (.int .i64 2), .lit (.int .i64 15), .lit (.int .i64 13), .lit (.int .i64 10), .lit (.int .i64 14), .lit (.int .i64 3), .lit (.int .i64 6), .lit (.int .i64 7), .lit (.int .i64 1), .lit (.int .i64 9), .lit (.int .i64 4)], .agg [.lit (.int .i64 7), .lit (.int .i64 9), .lit (.int .i64 3), .lit (.int .i64 1), .lit (.int .i64 13), .lit (.int .i64 12), .lit (.int .i64 11), .lit (.int .i64 14), .lit (.int .i64 2), .lit (.int .i64 6), .lit (.int .i64 5), .lit (.int .i64 10), .lit (.int .i64 4), .lit (.int .i64 0), .lit (.int .i64 15), .lit (.int .i64 8)], .agg [.lit (.int .i64 9), .lit (.int .i64 0), .lit (.int .i64 5), .lit (.int .i64 7), .lit (.int .i64 2), .lit (.int .i64 4), .lit (.int .i64 10), .lit (.int .i64 15), .lit (.int .i64 14), .lit (.int .i64 1), .lit (.int .i64 11), .lit (.int .i64 12), .lit (.int .i64 6), .lit (.int .i64 8), .lit (.int .i64 3), .lit (.int .i64 13)], .agg [.lit (.int .i64 2), .lit (.int .i64 12), .lit (.int .i64 6), .lit (.int .i64 10), .lit (.int .i64 0), .lit (.int .i64 11), .lit (.int .i64 8), .lit (.int .i64 3), .lit (.int .i64 4), .lit (.int .i64 13), .lit (.int .i64 7), .lit (.int .i64 5), .lit (.int .i64 15), .lit (.int .i64 14), .lit (.int .i64 1), .lit (.int .i64 9)], .agg [.lit (.int .i64 12), .lit (.int .i64 5), .lit (.int .i64 1), .lit (.int .i64 15), .lit (.int .i64 14), .lit (.int .i64 13), .lit (.int .i64 4), .lit (.int .i64 10), .lit (.int .i64 0), .lit (.int .i64 7), .lit (.int .i64 6), .lit (.int .i64 3), .lit (.int .i64 9), .lit (.int .i64 2), .lit (.int .i64 8), .lit (.int .i64 11)], .agg [.lit (.int .i64 13), .lit (.int .i64 11), .lit (.int .i64 7), .lit (.int .i64 14), .lit (.int .i64 12), .lit (.int .i64 1), .lit (.int .i64 3), .lit (.int .i64 9), .lit (.int .i64 5), .lit (.int .i64 0), .lit (.int .i64 15), .lit (.int .i64 4), .lit (.int .i64 8), .lit (.int .i64 6), .lit (.int .i64 2), .lit (.int .i64 10)], .agg [.lit (.int .i64 6), .lit (.int .i64 15), .lit (.int .i64 14), .lit (.int .i64 9), .lit (.int .i64 11), .lit (.int .i64 3), .lit (.int .i64 0), .lit (.int .i64 8), .lit (.int .i64 12), .lit (.int .i64 2), .lit (.int .i64 13), .lit (.int .i64 7), .lit (.int .i64 1), .lit (.int .i64 4), .lit (.int .i64 10), .lit (.int .i64 5)], .agg [.lit (.int .i64 10), .lit (.int .i64 2), .lit (.int .i64 8), .lit (.int .i64 4), .lit (.int .i64 7), .lit (.int .i64 6), .lit (.int .i64 1), .lit (.int .i64 5), .lit (.int .i64 15), .lit (.int .i64 11), .lit (.int .i64 9), .lit (.int .i64 14), .lit (.int .i64 3), .lit (.int .i64 12), .lit (.int .i64 13), .lit (.int .i64 0)]]
def laid_escutcheon_blake_places {H : Type} : DataW H := .agg [.agg [.lit (.int .i64 0), .lit (.int .i64 4), .lit (.int .i64 8), .lit (.int .i64 12)], .agg [.lit (.int .i64 1), .lit (.int .i64 5), .lit (.int .i64 9), .lit (.int .i64 13)], .agg [.lit (.int .i64 2), .lit (.int .i64 6), .lit (.int .i64 10), .lit (.int .i64 14)], .agg [.lit (.int .i64 3), .lit (.int .i64 7), .lit (.int .i64 11), .lit (.int .i64 15)], .agg [.lit (.int .i64 0), .lit (.int .i64 5), .lit (.int .i64 10), .lit (.int .i64 15)], .agg [.lit (.int .i64 1), .lit (.int .i64 6), .lit (.int .i64 11), .lit (.int .i64 12)], .agg [.lit (.int .i64 2), .lit (.int .i64 7), .lit (.int .i64 8), .lit (.int .i64 13)], .agg [.lit (.int .i64 3), .lit (.int .i64 4), .lit (.int .i64 9), .lit (.int .i64 14)]]

/-- 'escutcheonlaw04.BlakeSums': WHATEVER THE INPUT: true; the input reads as it did. -/
def blakeSumsSpec : ChangeSpec := { name := "blakeSums", fn := fun _ => fun
  | [d1, d2, d3] => { results := [.lit (.bool true)], args := [d1, d2, d3] }
  | _ => none }
def blakeSumsRow : OpenClaim := { program := "ytejbpfimgkpnlaadoor", sum := "66ec254826d26f236c3d4277d060ae072a20cdd5889b79498015eaa4287fc32f", func := "escutcheon/escutcheonlaw04.BlakeSums", spec := "blakeSums", named := ["escutcheon/api.Start512", "escutcheon/api.Turns", "escutcheon/blake.places"], apart := false, laid := [("escutcheon/api.Start512", laid_escutcheon_api_Start512), ("escutcheon/api.Turns", laid_escutcheon_api_Turns), ("escutcheon/blake.places", laid_escutcheon_blake_places)] }
def BlakeSumsSaid : Prop := blakeSumsRow.holds Tryd.pinned (OpenSpec.ofChange blakeSumsSpec)

/-- ITS FALSE NEIGHBOUR: 'it returns false'. Refute it at one input. -/
def blakeSumsWrong : ChangeSpec := { name := "blakeSums", fn := fun _ => fun
  | [d1, d2, d3] => { results := [.lit (.bool false)], args := [d1, d2, d3] }
  | _ => none }
def BlakeSumsWrongFalsely : Prop := blakeSumsRow.holds Tryd.pinned (OpenSpec.ofChange blakeSumsWrong)

/-- 'escutcheonlaw04.BlakeLongs': WHATEVER THE INPUT: true; the input reads as it did. -/
def blakeLongsSpec : ChangeSpec := { name := "blakeLongs", fn := fun _ => fun
  | [d] => { results := [.lit (.bool true)], args := [d] }
  | _ => none }
def blakeLongsRow : OpenClaim := { program := "ytejbpfimgkpnlaadoor", sum := "66ec254826d26f236c3d4277d060ae072a20cdd5889b79498015eaa4287fc32f", func := "escutcheon/escutcheonlaw04.BlakeLongs", spec := "blakeLongs", named := ["escutcheon/api.Start512", "escutcheon/api.Turns", "escutcheon/blake.places"], apart := false, laid := [("escutcheon/api.Start512", laid_escutcheon_api_Start512), ("escutcheon/api.Turns", laid_escutcheon_api_Turns), ("escutcheon/blake.places", laid_escutcheon_blake_places)] }
def BlakeLongsSaid : Prop := blakeLongsRow.holds Tryd.pinned (OpenSpec.ofChange blakeLongsSpec)

/-- ITS FALSE NEIGHBOUR: 'it returns false'. Refute it at one input. -/
def blakeLongsWrong : ChangeSpec := { name := "blakeLongs", fn := fun _ => fun
  | [d] => { results := [.lit (.bool false)], args := [d] }
  | _ => none }
def BlakeLongsWrongFalsely : Prop := blakeLongsRow.holds Tryd.pinned (OpenSpec.ofChange blakeLongsWrong)

/-- 'escutcheonlaw04.BlakeEdges': WHATEVER THE INPUT: true; the input reads as it did. -/
def blakeEdgesSpec : ChangeSpec := { name := "blakeEdges", fn := fun _ => fun
  | [d1, d2, d3] => { results := [.lit (.bool true)], args := [d1, d2, d3] }
  | _ => none }
def blakeEdgesRow : OpenClaim := { program := "ytejbpfimgkpnlaadoor", sum := "66ec254826d26f236c3d4277d060ae072a20cdd5889b79498015eaa4287fc32f", func := "escutcheon/escutcheonlaw04.BlakeEdges", spec := "blakeEdges", named := ["escutcheon/api.Start512", "escutcheon/api.Turns", "escutcheon/blake.places"], apart := false, laid := [("escutcheon/api.Start512", laid_escutcheon_api_Start512), ("escutcheon/api.Turns", laid_escutcheon_api_Turns), ("escutcheon/blake.places", laid_escutcheon_blake_places)] }
def BlakeEdgesSaid : Prop := blakeEdgesRow.holds Tryd.pinned (OpenSpec.ofChange blakeEdgesSpec)

/-- ITS FALSE NEIGHBOUR: 'it returns false'. Refute it at one input. -/
def blakeEdgesWrong : ChangeSpec := { name := "blakeEdges", fn := fun _ => fun
  | [d1, d2, d3] => { results := [.lit (.bool false)], args := [d1, d2, d3] }
  | _ => none }
def BlakeEdgesWrongFalsely : Prop := blakeEdgesRow.holds Tryd.pinned (OpenSpec.ofChange blakeEdgesWrong)

/-- 'escutcheonlaw04.BlakeChecks': WHATEVER THE INPUT: true; the input reads as it did. -/
def blakeChecksSpec : ChangeSpec := { name := "blakeChecks", fn := fun _ => fun
  | [d1, d2, d3] => { results := [.lit (.bool true)], args := [d1, d2, d3] }
  | _ => none }
def blakeChecksRow : OpenClaim := { program := "ytejbpfimgkpnlaadoor", sum := "66ec254826d26f236c3d4277d060ae072a20cdd5889b79498015eaa4287fc32f", func := "escutcheon/escutcheonlaw04.BlakeChecks", spec := "blakeChecks", named := ["escutcheon/api.Start512", "escutcheon/api.Turns", "escutcheon/blake.places"], apart := false, laid := [("escutcheon/api.Start512", laid_escutcheon_api_Start512), ("escutcheon/api.Turns", laid_escutcheon_api_Turns), ("escutcheon/blake.places", laid_escutcheon_blake_places)] }
def BlakeChecksSaid : Prop := blakeChecksRow.holds Tryd.pinned (OpenSpec.ofChange blakeChecksSpec)

/-- ITS FALSE NEIGHBOUR: 'it returns false'. Refute it at one input. -/
def blakeChecksWrong : ChangeSpec := { name := "blakeChecks", fn := fun _ => fun
  | [d1, d2, d3] => { results := [.lit (.bool false)], args := [d1, d2, d3] }
  | _ => none }
def BlakeChecksWrongFalsely : Prop := blakeChecksRow.holds Tryd.pinned (OpenSpec.ofChange blakeChecksWrong)

/-- 'escutcheonlaw04.BlakeParts': WHATEVER THE INPUT: true; the input reads as it did. -/
def blakePartsSpec : ChangeSpec := { name := "blakeParts", fn := fun _ => fun
  | [d1, d2, d3] => { results := [.lit (.bool true)], args := [d1, d2, d3] }
  | _ => none }
def blakePartsRow : OpenClaim := { program := "ytejbpfimgkpnlaadoor", sum := "66ec254826d26f236c3d4277d060ae072a20cdd5889b79498015eaa4287fc32f", func := "escutcheon/escutcheonlaw04.BlakeParts", spec := "blakeParts", named := ["escutcheon/api.Start512", "escutcheon/api.Turns", "escutcheon/blake.places"], apart := false, laid := [("escutcheon/api.Start512", laid_escutcheon_api_Start512), ("escutcheon/api.Turns", laid_escutcheon_api_Turns), ("escutcheon/blake.places", laid_escutcheon_blake_places)] }
def BlakePartsSaid : Prop := blakePartsRow.holds Tryd.pinned (OpenSpec.ofChange blakePartsSpec)

/-- ITS FALSE NEIGHBOUR: 'it returns false'. Refute it at one input. -/
def blakePartsWrong : ChangeSpec := { name := "blakeParts", fn := fun _ => fun
  | [d1, d2, d3] => { results := [.lit (.bool false)], args := [d1, d2, d3] }
  | _ => none }
def BlakePartsWrongFalsely : Prop := blakePartsRow.holds Tryd.pinned (OpenSpec.ofChange blakePartsWrong)

/-- 'escutcheonlaw04.BlakeRanges': WHATEVER THE INPUT: true; the input reads as it did. -/
def blakeRangesSpec : ChangeSpec := { name := "blakeRanges", fn := fun _ => fun
  | [d1, d2, d3] => { results := [.lit (.bool true)], args := [d1, d2, d3] }
  | _ => none }
def blakeRangesRow : OpenClaim := { program := "ytejbpfimgkpnlaadoor", sum := "66ec254826d26f236c3d4277d060ae072a20cdd5889b79498015eaa4287fc32f", func := "escutcheon/escutcheonlaw04.BlakeRanges", spec := "blakeRanges", named := ["escutcheon/api.Start512", "escutcheon/api.Turns", "escutcheon/blake.places"], apart := false, laid := [("escutcheon/api.Start512", laid_escutcheon_api_Start512), ("escutcheon/api.Turns", laid_escutcheon_api_Turns), ("escutcheon/blake.places", laid_escutcheon_blake_places)] }
def BlakeRangesSaid : Prop := blakeRangesRow.holds Tryd.pinned (OpenSpec.ofChange blakeRangesSpec)

/-- ITS FALSE NEIGHBOUR: 'it returns false'. Refute it at one input. -/
def blakeRangesWrong : ChangeSpec := { name := "blakeRanges", fn := fun _ => fun
  | [d1, d2, d3] => { results := [.lit (.bool false)], args := [d1, d2, d3] }
  | _ => none }
def BlakeRangesWrongFalsely : Prop := blakeRangesRow.holds Tryd.pinned (OpenSpec.ofChange blakeRangesWrong)

/- THE SECOND FORM. 'bulk': how many values and letters a reading holds, each counted each time it is reached (what is shared counts as often as it is met; a slice's spare places count too). A statement '..UptoSaid' is the law's where the arguments, and the package variables that the reading takes, are together of bulk at most 1048576: NARROWER than '..Said'. Prove '..Said' where nothing that the law and all that it calls make is longer than what came in: it says more and counts as full. Else prove '..UptoSaid'. A law counts once. -/
mutual
def uptoBulk {H : Type} : DataW H → Nat
  | .lit (.string bytes) => bytes.length + 1
  | .lit _ => 1
  | .nil => 1
  | .ptr d => uptoBulk d + 1
  | .slice elems spare => uptoBulkAll elems + uptoBulkAll spare + 1
  | .agg parts => uptoBulkAll parts + 1
  | .iface _ d => uptoBulk d + 1
  | .map entries => uptoBulkEntries entries + 1
  | .held _ => 1
def uptoBulkAll {H : Type} : List (DataW H) → Nat
  | [] => 0
  | d :: r => uptoBulk d + uptoBulkAll r
def uptoBulkEntries {H : Type} : List (Lit × DataW H) → Nat
  | [] => 0
  | x :: r => uptoBulkEntry x + uptoBulkEntries r
def uptoBulkEntry {H : Type} : Lit × DataW H → Nat
  | (.string bytes, d) => bytes.length + uptoBulk d + 1
  | (_, d) => uptoBulk d + 1
 end
def uptoSmall : (H : Type) → List (DataW H) → Bool := fun _ ds => decide (uptoBulkAll ds ≤ 1048576)
def OpenSpec.upto (s : _root_.Go.ChangeSpec) : _root_.Go.OpenSpec := { _root_.Go.OpenSpec.ofChange s with cond := some uptoSmall }

/-- 'escutcheonlaw04.BlakeSums', WHERE WHAT IT READS IS OF BULK AT MOST 1048576: true; the input reads as it did. -/
def blakeSumsUptoRow : OpenClaim := { program := "ytejbpfimgkpnlaadoor", sum := "66ec254826d26f236c3d4277d060ae072a20cdd5889b79498015eaa4287fc32f", func := "escutcheon/escutcheonlaw04.BlakeSums", spec := "blakeSums", named := ["escutcheon/api.Start512", "escutcheon/api.Turns", "escutcheon/blake.places"], apart := false, laid := [("escutcheon/api.Start512", laid_escutcheon_api_Start512), ("escutcheon/api.Turns", laid_escutcheon_api_Turns), ("escutcheon/blake.places", laid_escutcheon_blake_places)], narrowed := true }
def BlakeSumsUptoSaid : Prop := blakeSumsUptoRow.holds Tryd.pinned (OpenSpec.upto blakeSumsSpec)

/-- 'escutcheonlaw04.BlakeLongs', WHERE WHAT IT READS IS OF BULK AT MOST 1048576: true; the input reads as it did. -/
def blakeLongsUptoRow : OpenClaim := { program := "ytejbpfimgkpnlaadoor", sum := "66ec254826d26f236c3d4277d060ae072a20cdd5889b79498015eaa4287fc32f", func := "escutcheon/escutcheonlaw04.BlakeLongs", spec := "blakeLongs", named := ["escutcheon/api.Start512", "escutcheon/api.Turns", "escutcheon/blake.places"], apart := false, laid := [("escutcheon/api.Start512", laid_escutcheon_api_Start512), ("escutcheon/api.Turns", laid_escutcheon_api_Turns), ("escutcheon/blake.places", laid_escutcheon_blake_places)], narrowed := true }
def BlakeLongsUptoSaid : Prop := blakeLongsUptoRow.holds Tryd.pinned (OpenSpec.upto blakeLongsSpec)

/-- 'escutcheonlaw04.BlakeEdges', WHERE WHAT IT READS IS OF BULK AT MOST 1048576: true; the input reads as it did. -/
def blakeEdgesUptoRow : OpenClaim := { program := "ytejbpfimgkpnlaadoor", sum := "66ec254826d26f236c3d4277d060ae072a20cdd5889b79498015eaa4287fc32f", func := "escutcheon/escutcheonlaw04.BlakeEdges", spec := "blakeEdges", named := ["escutcheon/api.Start512", "escutcheon/api.Turns", "escutcheon/blake.places"], apart := false, laid := [("escutcheon/api.Start512", laid_escutcheon_api_Start512), ("escutcheon/api.Turns", laid_escutcheon_api_Turns), ("escutcheon/blake.places", laid_escutcheon_blake_places)], narrowed := true }
def BlakeEdgesUptoSaid : Prop := blakeEdgesUptoRow.holds Tryd.pinned (OpenSpec.upto blakeEdgesSpec)

/-- 'escutcheonlaw04.BlakeChecks', WHERE WHAT IT READS IS OF BULK AT MOST 1048576: true; the input reads as it did. -/
def blakeChecksUptoRow : OpenClaim := { program := "ytejbpfimgkpnlaadoor", sum := "66ec254826d26f236c3d4277d060ae072a20cdd5889b79498015eaa4287fc32f", func := "escutcheon/escutcheonlaw04.BlakeChecks", spec := "blakeChecks", named := ["escutcheon/api.Start512", "escutcheon/api.Turns", "escutcheon/blake.places"], apart := false, laid := [("escutcheon/api.Start512", laid_escutcheon_api_Start512), ("escutcheon/api.Turns", laid_escutcheon_api_Turns), ("escutcheon/blake.places", laid_escutcheon_blake_places)], narrowed := true }
def BlakeChecksUptoSaid : Prop := blakeChecksUptoRow.holds Tryd.pinned (OpenSpec.upto blakeChecksSpec)

/-- 'escutcheonlaw04.BlakeParts', WHERE WHAT IT READS IS OF BULK AT MOST 1048576: true; the input reads as it did. -/
def blakePartsUptoRow : OpenClaim := { program := "ytejbpfimgkpnlaadoor", sum := "66ec254826d26f236c3d4277d060ae072a20cdd5889b79498015eaa4287fc32f", func := "escutcheon/escutcheonlaw04.BlakeParts", spec := "blakeParts", named := ["escutcheon/api.Start512", "escutcheon/api.Turns", "escutcheon/blake.places"], apart := false, laid := [("escutcheon/api.Start512", laid_escutcheon_api_Start512), ("escutcheon/api.Turns", laid_escutcheon_api_Turns), ("escutcheon/blake.places", laid_escutcheon_blake_places)], narrowed := true }
def BlakePartsUptoSaid : Prop := blakePartsUptoRow.holds Tryd.pinned (OpenSpec.upto blakePartsSpec)

/-- 'escutcheonlaw04.BlakeRanges', WHERE WHAT IT READS IS OF BULK AT MOST 1048576: true; the input reads as it did. -/
def blakeRangesUptoRow : OpenClaim := { program := "ytejbpfimgkpnlaadoor", sum := "66ec254826d26f236c3d4277d060ae072a20cdd5889b79498015eaa4287fc32f", func := "escutcheon/escutcheonlaw04.BlakeRanges", spec := "blakeRanges", named := ["escutcheon/api.Start512", "escutcheon/api.Turns", "escutcheon/blake.places"], apart := false, laid := [("escutcheon/api.Start512", laid_escutcheon_api_Start512), ("escutcheon/api.Turns", laid_escutcheon_api_Turns), ("escutcheon/blake.places", laid_escutcheon_blake_places)], narrowed := true }
def BlakeRangesUptoSaid : Prop := blakeRangesUptoRow.holds Tryd.pinned (OpenSpec.upto blakeRangesSpec)

end Rows
end Go.Proofs.YtejbpfimgkpnlaaDoor
