/- The statement CellarHashesSaid and its tied card: for every input the law answers true and the input reads as it did, the listed variables holding what the program lays in them. -/
import Derived.Test.YtkeacmonhjhgeaaDoorRows
import Derived.Test.YtkeacmonhjhgeaaDoorCards
import Derived.Test.YtkeacmonhjhgeaaDoorTie
import Derived.Test.YtkeacmonhjhgeaaDoorLaid
import Derived.Test.YtkeacmonhjhgeaaDoorAbsRead
import Derived.Test.YtkeacmonhjhgeaaDoorAbsReadS
import Derived.Test.YtkeacmonhjhgeaaDoorCelXY
import Derived.WalkKit
import Derived.ProofKit
import Derived.OpenShut
import Derived.ShutString
import Derived.ChangeOld
import Derived.Below
import Derived.SizedLaws
import Derived.LaidMore
import Derived.Stop.Joined
import Derived.SevenTiedAt
namespace Go.Proofs.YtkeacmonhjhgeaaDoor.cellarHashes
open Go.ChangeShapes Go.WideShapes Go.ChangeAt Go.RowKit
open Go.ChangeMaps (open_string shut_string)
open Go.Abs (AV AR lawSig)
set_option linter.unusedVariables false
set_option linter.unusedSimpArgs false
theorem own : ownKnob Tryd.prog.godebug = none := by kernel_rfl
theorem laidOut : laidOutB Tryd.prog = true := by kernel_rfl
theorem door_met (os : Os) (args : Array Value) : laidMetH Tryd.prog Rows.cellarHashesRow.laid ((World.doorLaid Tryd.prog 42 os).forCall (fun _ _ => 0) ⟨#[], args, []⟩).memory :=
  laidMetH_of_parts3 (fuel := 8) (laidMet_of_run' 8 (by kernel_rfl) (by kernel_rfl)) (by kernel_rfl) (by kernel_rfl)
theorem gl_of {W : World} (h : laidMetH Tryd.prog Rows.cellarHashesRow.laid W) (g : Nat) : AR (lawSig W) W (Go.Abs.S.glob g) (.pointer (some ⟨g, 0, none⟩)) := by
  rw [MakeChecks.laidMetH_plain _ _ _ (by kernel_rfl)] at h
  unfold Go.Abs.S.glob
  by_cases e0 : g = 0
  · subst e0
    rw [if_pos rfl]
    exact Go.Abs.laid_ar (fun i => LaidCells.laid_cell h (n := "escutcheon/api.Start512") (d := Rows.laid_escutcheon_api_Start512) (by simp [Rows.cellarHashesRow]) (g := 0) (t := 55) (k := 8) (l := Go.Abs.S.cells_escutcheon_api_Start512) (by kernel_rfl) (by kernel_rfl) (by kernel_rfl) i) (of_decide_eq_true (by kernel_rfl)) Go.Abs.S.glob_escutcheon_api_Start512
  rw [if_neg e0]
  by_cases e1 : g = 1
  · subst e1
    rw [if_pos rfl]
    exact Go.Abs.laid_ar (fun i => LaidCells.laid_cell h (n := "escutcheon/api.Turns") (d := Rows.laid_escutcheon_api_Turns) (by simp [Rows.cellarHashesRow]) (g := 1) (t := 71) (k := 8) (l := Go.Abs.S.cells_escutcheon_api_Turns) (by kernel_rfl) (by kernel_rfl) (by kernel_rfl) i) (of_decide_eq_true (by kernel_rfl)) Go.Abs.S.glob_escutcheon_api_Turns
  rw [if_neg e1]
  by_cases e2 : g = 2
  · subst e2
    rw [if_pos rfl]
    exact Go.Abs.laid_ar (fun i => LaidCells.laid_cell h (n := "escutcheon/blake.places") (d := Rows.laid_escutcheon_blake_places) (by simp [Rows.cellarHashesRow]) (g := 2) (t := 73) (k := 8) (l := Go.Abs.S.cells_escutcheon_blake_places) (by kernel_rfl) (by kernel_rfl) (by kernel_rfl) i) (of_decide_eq_true (by kernel_rfl)) Go.Abs.S.glob_escutcheon_blake_places
  rw [if_neg e2]
  exact AR.any _
set_option maxRecDepth 100000 in
theorem lifted (os : Os) (started : os.Started) (H : Type) (enc : TypeId × Value → H) :
    ReturnsInHanded {} Tryd.checked os 3 .any (fun w args => (Rows.cellarHashesSpec.pre enc Tryd.prog Tryd.f3 [] false w args ∧ laidMetH Tryd.prog Rows.cellarHashesRow.laid w) ∧ sizedMet enc Tryd.prog Tryd.f3 (OpenSpec.ofChange Rows.cellarHashesSpec) false w args)
      (Rows.cellarHashesSpec.post enc Tryd.prog Tryd.f3 false true false false) := by
  refine returnsInHanded_of_change_and (C := Tryd.checked) (X := fun w _ => laidMetH Tryd.prog Rows.cellarHashesRow.laid w) (fun _ _ _ hh h => h.of_heap hh) own started (by kernel_rfl) Tryd.func3
    (ChangeSpec.witness_shaped (enc := enc) (C := Tryd.checked) (os := os) (X := fun w _ => laidMetH Tryd.prog Rows.cellarHashesRow.laid w) false (World.doorLaid Tryd.prog 42 os) #[.agg (Array.replicate 2 (.slice none 0 0)), .agg #[.int .i64 0, .int .i64 0, .int .i64 0, .int .i64 0], .int .i64 0] 8 rfl (World.shaped_of_RefB (by kernel_rfl) (by kernel_rfl)) (by kernel_rfl) (by kernel_rfl) (by kernel_rfl) (door_met os _)) ?_
  intro W base args ds gs before hval0 hW _ hsz0 hL _
  have hval : ∀ (j : Nat) t v, Tryd.f3.params[j]? = some t → args[j]? = some v → Value.okWide Tryd.prog W .any base t v := hval0
  have hW' := hW
  obtain ⟨p, q, hA0, hV, rfl, hfz, hnd⟩ := hW
  have hA : DataW.TrodAll enc Tryd.prog W 0 (fun _ => true) true Tryd.f3.params.toList args.toList ds p := hA0
  rw [Tryd.params3] at hA hval
  obtain ⟨v0, vs0, d0, ds0, p0, q0, hargs, rfl, rfl, h0, r0⟩ := trodAll_cons hA
  obtain ⟨v1, vs1, d1, ds1, p1, q1, rfl, rfl, rfl, h1, r1⟩ := trodAll_cons r0
  obtain ⟨v2, vs2, d2, ds2, p2, q2, rfl, rfl, rfl, h2, r2⟩ := trodAll_cons r1
  obtain ⟨rfl, rfl, rfl⟩ := trodAll_nil r2
  obtain rfl : args = #[v0, v1, v2] := by cases args; simp_all
  obtain ⟨rfl, rfl⟩ := trodVars_none hV
  have k0 := h0
  have lt0 : ∀ x ∈ p0, x.block < W.heap.size := by obtain ⟨m, hm⟩ := k0; exact DataW.trod_lt m _ _ _ hm
  obtain ⟨us0, rfl⟩ := Go.Abs.okWide_agg Tryd.underlying23 (hval 0 23 v0 rfl rfl)
  obtain ⟨l0, ⟨m0, w0⟩, a0⟩ := Go.Abs.Rd.argN (r := ((Go.Abs.Rd.int .u8).slice.arr 2)) (Go.Abs.Rd.arr_is Tryd.underlying23 (by kernel_rfl) (by kernel_rfl) (Go.Abs.Rd.slice_is Tryd.underlying22 (by kernel_rfl) (by decide) (Go.Abs.Rd.int_is Tryd.underlying5))) h0
  simp only [Go.Abs.rd_slice, Go.Abs.rd_arr, Go.Abs.flat_ints, Go.Abs.flat_rows, Go.Abs.flat_strs] at a0
  have b0 := Go.Abs.u8_wfs w0
  have k1 := h1
  have lt1 : ∀ x ∈ p1, x.block < W.heap.size := by obtain ⟨m, hm⟩ := k1; exact DataW.trod_lt m _ _ _ hm
  obtain ⟨us1, rfl⟩ := Go.Abs.okWide_struct Tryd.underlying25 (hval 1 25 v1 rfl rfl)
  obtain ⟨y1, w1, a1⟩ := Go.Abs.Rd.argN (r := (Go.Abs.Rd.pair (Go.Abs.Rd.int .i64) (Go.Abs.Rd.pair (Go.Abs.Rd.int .i64) (Go.Abs.Rd.pair (Go.Abs.Rd.int .i64) (Go.Abs.Rd.pair (Go.Abs.Rd.int .i64) Go.Abs.Rd.unit))))) (Go.Abs.Rd.struct_is Tryd.underlying25 (by kernel_rfl) (fun _ _ => trivial) (Go.Abs.Rd.fields_cons rfl (by kernel_rfl) (Go.Abs.Rd.int_is Tryd.underlying3) (Go.Abs.Rd.fields_cons rfl (by kernel_rfl) (Go.Abs.Rd.int_is Tryd.underlying3) (Go.Abs.Rd.fields_cons rfl (by kernel_rfl) (Go.Abs.Rd.int_is Tryd.underlying3) (Go.Abs.Rd.fields_cons rfl (by kernel_rfl) (Go.Abs.Rd.int_is Tryd.underlying3) (Go.Abs.Rd.fields_nil _)))))) h1
  obtain ⟨l1_0, l1_1, l1_2, l1_3, _⟩ := y1
  obtain ⟨l2, rfl, rfl, rfl, w2⟩ := open_int Tryd.underlying3 (hval 2 3 v2 rfl rfl) h2
  have z2 := w2
  simp [Lit.wf, IntKind.min, IntKind.max, IntKind.signed, IntKind.bits] at z2
  clear hA0 hval0 hsz0
  refine (Go.Abs.ACall.law (b := true) (G := Go.Abs.S.glob) (args := [AV.agg (Go.Abs.rows .u8 l0), AV.agg [.v (.int .i64 l1_0), .v (.int .i64 l1_1), .v (.int .i64 l1_2), .v (.int .i64 l1_3)], AV.v (.int .i64 l2)]) ((by obtain ⟨x0, x1, rfl⟩ : ∃ a b, l0 = [a, b] := (match l0, m0 with | [a, b], _ => ⟨a, b, rfl⟩); exact Go.Abs.S.hashes_law x0 x1 l1_0 l1_1 l1_2 l1_3 l2 (b0 _ (by simp)) (b0 _ (by simp)) [])) rfl ?_ (gl_of hL)).mono fun e W' ⟨he, hbel⟩ => ?_
  · intro j hj
    match j, hj with
    | 0, _ => exact a0
    | 1, _ => exact a1
    | 2, _ => exact AR.v _
  have bel : Below W.heap.size W W' := hbel
  subst he
  exact ⟨_, rfl, _, _, _, [], _, [], hW', trodAll_mk1 (shut_bool Tryd.underlying4 _), (trodAll_cons_mk (Below.trod laidOut (by kernel_rfl) (of_decide_eq_true (by kernel_rfl)) k0 bel lt0) (trodAll_cons_mk (Below.trod laidOut (by kernel_rfl) (of_decide_eq_true (by kernel_rfl)) k1 bel lt1) (trodAll_cons_mk (shut_int Tryd.underlying3 w2) trodAll_mk0))), rfl, bel.frame _, fun h => by cases h⟩
theorem over : Rows.cellarHashesRow.holds Tryd.pinned (OpenSpec.ofChange Rows.cellarHashesSpec) :=
  OpenClaim.holds_of_wide 3 Tryd.f3 rfl rfl rfl rfl rfl rfl rfl ⟨rfl, rfl, rfl, rfl, rfl⟩ rfl rfl rfl rfl rfl (by kernel_rfl) Tryd.func3 (by kernel_rfl)
    (of_decide_eq_true (by kernel_rfl)) (by unfold Func.isWrapper; first | (rw [if_pos (by decide +kernel)]; kernel_rfl) | (rw [if_neg (by decide +kernel)]; exact ⟨rfl, rfl⟩))
    (fun os started H enc _ => lifted os started H enc)
theorem card : Rows.CellarHashesCardSaid :=
  Claim7.holds_tied_plain_at .later [] [.widerDeep, .data, .data] true (true, "bfa3f8c6b9ce56a09d08c3269441e78c23e1b6789c27f2be60248ee44637460e") false
    over (fun _ h => by cases h) (by kernel_rfl) (fun _ h => by cases h) cellarHashes_row_tie rfl ⟨rfl, rfl⟩ (by kernel_rfl) rfl
    (fun f fn hf hfn => by
      obtain rfl : f = 3 := Option.some.inj ((show Tryd.prog.funcNamed "escutcheon/escutcheonlaw07.CellarHashes" = some 3 by kernel_rfl).symm.trans hf) |>.symm
      obtain rfl : fn = Tryd.f3 := (Option.some.inj (Tryd.func3.symm.trans hfn)).symm
      refine ⟨by kernel_rfl, fun j t ht => ?_⟩
      rw [Tryd.params3] at ht
      rcases j with _ | j
      · obtain rfl : t = 23 := by simpa using ht.symm
        exact (show Tryd.prog.wantsStandIn 23 = false by kernel_rfl)
      rcases j with _ | j
      · obtain rfl : t = 25 := by simpa using ht.symm
        exact (show Tryd.prog.wantsStandIn 25 = false by kernel_rfl)
      rcases j with _ | j
      · obtain rfl : t = 3 := by simpa using ht.symm
        exact (show Tryd.prog.wantsStandIn 3 = false by kernel_rfl)
      · simp at ht)
    (by kernel_rfl)
#print axioms card
end Go.Proofs.YtkeacmonhjhgeaaDoor.cellarHashes
namespace Go.Proofs.YtkeacmonhjhgeaaDoor
/-- The statement, under a short name, for the claim. -/
theorem cellarHashes_holds : Rows.CellarHashesCardSaid := cellarHashes.card
end Go.Proofs.YtkeacmonhjhgeaaDoor
