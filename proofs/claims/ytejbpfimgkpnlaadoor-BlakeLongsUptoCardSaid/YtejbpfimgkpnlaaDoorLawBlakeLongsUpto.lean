/- The statement BlakeLongsSaid and its tied card: for every input the law answers true and the input reads as it did, the listed variables holding what the program lays in them. -/
import Derived.Test.YtejbpfimgkpnlaaDoorRows
import Derived.Test.YtejbpfimgkpnlaaDoorCards
import Derived.Test.YtejbpfimgkpnlaaDoorTie
import Derived.Test.YtejbpfimgkpnlaaDoorLaid
import Derived.Test.YtejbpfimgkpnlaaDoorAbsRead
import Derived.Test.YtejbpfimgkpnlaaDoorAbsUpto
import Derived.Test.YtejbpfimgkpnlaaDoorBlaI
import Derived.Deep.DeepHandedRow
import Derived.WalkKit
import Derived.ProofKit
import Derived.OpenShut
import Derived.ShutString
import Derived.ChangeOld
import Derived.Below
import Derived.SizedLaws
import Derived.LaidMore
import Derived.Stop.Joined
import Derived.SevenTiedAt
namespace Go.Proofs.YtejbpfimgkpnlaaDoor.blakeLongsUpto
open Go.ChangeShapes Go.WideShapes Go.ChangeAt Go.RowKit
open Go.ChangeMaps (open_string shut_string)
open Go.Abs (AV AR lawSig)
set_option linter.unusedVariables false
set_option linter.unusedSimpArgs false
theorem own : ownKnob Tryd.prog.godebug = none := by kernel_rfl
theorem laidOut : laidOutB Tryd.prog = true := by kernel_rfl
theorem door_met (os : Os) (args : Array Value) : laidMetH Tryd.prog Rows.blakeLongsUptoRow.laid ((World.doorLaid Tryd.prog 42 os).forCall (fun _ _ => 0) ⟨#[], args, []⟩).memory :=
  laidMetH_of_parts3 (fuel := 8) (laidMet_of_run' 8 (by kernel_rfl) (by kernel_rfl)) (by kernel_rfl) (by kernel_rfl)
theorem gl_of {W : World} (h : laidMetH Tryd.prog Rows.blakeLongsUptoRow.laid W) (g : Nat) : AR (lawSig W) W (Go.Abs.S.glob g) (.pointer (some ⟨g, 0, none⟩)) := by
  rw [MakeChecks.laidMetH_plain _ _ _ (by kernel_rfl)] at h
  unfold Go.Abs.S.glob
  by_cases e0 : g = 0
  · subst e0
    rw [if_pos rfl]
    exact Go.Abs.laid_ar (fun i => LaidCells.laid_cell h (n := "escutcheon/api.Start512") (d := Rows.laid_escutcheon_api_Start512) (by simp [Rows.blakeLongsUptoRow]) (g := 0) (t := 40) (k := 8) (l := Go.Abs.S.cells_escutcheon_api_Start512) (by kernel_rfl) (by kernel_rfl) (by kernel_rfl) i) (of_decide_eq_true (by kernel_rfl)) Go.Abs.S.glob_escutcheon_api_Start512
  rw [if_neg e0]
  by_cases e1 : g = 1
  · subst e1
    rw [if_pos rfl]
    exact Go.Abs.laid_ar (fun i => LaidCells.laid_cell h (n := "escutcheon/api.Turns") (d := Rows.laid_escutcheon_api_Turns) (by simp [Rows.blakeLongsUptoRow]) (g := 1) (t := 55) (k := 8) (l := Go.Abs.S.cells_escutcheon_api_Turns) (by kernel_rfl) (by kernel_rfl) (by kernel_rfl) i) (of_decide_eq_true (by kernel_rfl)) Go.Abs.S.glob_escutcheon_api_Turns
  rw [if_neg e1]
  by_cases e2 : g = 2
  · subst e2
    rw [if_pos rfl]
    exact Go.Abs.laid_ar (fun i => LaidCells.laid_cell h (n := "escutcheon/blake.places") (d := Rows.laid_escutcheon_blake_places) (by simp [Rows.blakeLongsUptoRow]) (g := 2) (t := 57) (k := 8) (l := Go.Abs.S.cells_escutcheon_blake_places) (by kernel_rfl) (by kernel_rfl) (by kernel_rfl) i) (of_decide_eq_true (by kernel_rfl)) Go.Abs.S.glob_escutcheon_blake_places
  rw [if_neg e2]
  exact AR.any _
theorem reads (os : Os) {H : Type} (enc : TypeId × Value → H) : ∃ places, DataW.whole enc Tryd.prog ((World.doorLaid Tryd.prog 42 os).forCall (fun _ _ => 0) ⟨#[], #[.slice none 0 0], []⟩).memory Tryd.f4.params.toList Rows.blakeLongsSpec.vars false (#[.slice none 0 0] : Array Value).toList 8 = some ([.nil], [], places) :=
  ⟨[], by kernel_rfl⟩
set_option maxRecDepth 100000 in
theorem lifted (os : Os) (started : os.Started) (H : Type) (enc : TypeId × Value → H) (F : Stop.Interp) :
    ReturnsInHanded {} Tryd.checked os 4 .any ((Rows.OpenSpec.upto Rows.blakeLongsSpec).preRow enc Tryd.prog Tryd.f4 Rows.blakeLongsUptoRow.domain false Rows.blakeLongsUptoRow.laid) (((Rows.OpenSpec.upto Rows.blakeLongsSpec).at F).post enc Tryd.prog Tryd.f4 false true false false) := by
  obtain ⟨places, hx⟩ := reads os enc
  refine returnsInHanded_of_row (C := Tryd.checked) (s := Rows.OpenSpec.upto Rows.blakeLongsSpec) own started (by kernel_rfl) Tryd.func4
    (witness_row_at (enc := enc) (C := Tryd.checked) false (World.doorLaid Tryd.prog 42 os) #[.slice none 0 0] rfl (by kernel_rfl) (by kernel_rfl) (by kernel_rfl)
      (OpenSpec.preRow_of_cond 8 hx (by kernel_rfl) (fun k hk => by cases hk; kernel_rfl) (by kernel_rfl) (door_met os _))) ?_
  intro W base args ds gs before hval0 hW _ hcond hsz0 hL _ _
  refine (show Calls Tryd.prog 4 args W (fun e W' => ∃ v, e = .returned v ∧ Rows.blakeLongsSpec.post enc Tryd.prog Tryd.f4 false true false false W args v W') from ?_)
  have hk := hcond _ rfl
  have hval : ∀ (j : Nat) t v, Tryd.f4.params[j]? = some t → args[j]? = some v → Value.okWide Tryd.prog W .any base t v := hval0
  have hW' := hW
  obtain ⟨p, q, hA0, hV, rfl, hfz, hnd⟩ := hW
  have hA : DataW.TrodAll enc Tryd.prog W 0 (fun _ => true) true Tryd.f4.params.toList args.toList ds p := hA0
  rw [Tryd.params4] at hA hval
  obtain ⟨v0, vs0, d0, ds0, p0, q0, hargs, rfl, rfl, h0, r0⟩ := trodAll_cons hA
  obtain ⟨rfl, rfl, rfl⟩ := trodAll_nil r0
  obtain rfl : args = #[v0] := by cases args; simp_all
  obtain ⟨rfl, rfl⟩ := trodVars_none hV
  have k0 := h0
  have lt0 : ∀ x ∈ p0, x.block < W.heap.size := by obtain ⟨m, hm⟩ := k0; exact DataW.trod_lt m _ _ _ hm
  obtain ⟨l0, ⟨m0, w0⟩, a0, dt0⟩ := Go.Abs.Rd.arg1d (r := (Go.Abs.Rd.int .u8).slice.slice) (Go.Abs.Rd.slice_is Tryd.underlying23 (by kernel_rfl) (by decide) (Go.Abs.Rd.slice_is Tryd.underlying22 (by kernel_rfl) (by decide) (Go.Abs.Rd.int_is Tryd.underlying5))) rfl h0 (by obtain ⟨_, _, _, rfl⟩ := okWide_slice Tryd.underlying23 (hval 0 23 v0 rfl rfl); rfl)
  simp only [Go.Abs.rd_slice, Go.Abs.rd_arr, Go.Abs.flat_ints, Go.Abs.flat_rows, Go.Abs.flat_strs] at a0
  have b0 := Go.Abs.u8_wfs w0
  clear hA0 hval0 hsz0
  refine (Go.Abs.ACall.law (b := true) (G := Go.Abs.S.glob) (args := [AV.vsl l0.length (Go.Abs.rows .u8 l0) none]) ((by
    have hb := Go.Abs.bulk_bound hk
    have h2 := Go.Abs.bulk_rows dt0
    have h3 := Go.Abs.bulk_rowsN dt0
    simp only [List.append_nil, Rows.uptoBulkAll] at hb
    exact Go.Abs.S.longs_p l0 b0 (by omega) (by omega) [])) rfl ?_ (gl_of hL)).mono fun e W' ⟨he, hbel⟩ => ?_
  · intro j hj
    match j, hj with
    | 0, _ => exact a0
  have bel : Below W.heap.size W W' := hbel
  subst he
  exact ⟨_, rfl, _, _, _, [], _, [], hW', trodAll_mk1 (shut_bool Tryd.underlying4 _), (trodAll_cons_mk (Below.trod laidOut (by kernel_rfl) (of_decide_eq_true (by kernel_rfl)) k0 bel lt0) trodAll_mk0), rfl, bel.frame _, fun h => by cases h⟩
theorem over : Rows.blakeLongsUptoRow.holds Tryd.pinned (Rows.OpenSpec.upto Rows.blakeLongsSpec) :=
  OpenClaim.holds_of_cond 4 Tryd.f4 rfl rfl rfl rfl rfl rfl rfl ⟨rfl, rfl, rfl, rfl, rfl⟩ rfl rfl rfl rfl rfl (by kernel_rfl) Tryd.func4 (by kernel_rfl)
    (of_decide_eq_true (by kernel_rfl)) (by unfold Func.isWrapper; first | (rw [if_pos (by decide +kernel)]; kernel_rfl) | (rw [if_neg (by decide +kernel)]; exact ⟨rfl, rfl⟩))
    (fun os started H enc _ F => by rw [OpenClaim.pre_eq_preRow]; exact lifted os started H enc F)
theorem card : Rows.BlakeLongsUptoCardSaid :=
  Claim7.holds_tied_plain_at .later [] [.widerDeep, .data, .data] true (true, "b0515ecfd6dbfd8cc175e8eecb6149c625370a464d55928fc61a09b9c0996ca4") false
    over (fun _ h => by cases h) (by kernel_rfl) (fun _ h => by cases h) blakeLongsUpto_row_tie rfl ⟨rfl, rfl⟩ (by kernel_rfl) rfl
    (fun f fn hf hfn => by
      obtain rfl : f = 4 := Option.some.inj ((show Tryd.prog.funcNamed "escutcheon/escutcheonlaw04.BlakeLongs" = some 4 by kernel_rfl).symm.trans hf) |>.symm
      obtain rfl : fn = Tryd.f4 := (Option.some.inj (Tryd.func4.symm.trans hfn)).symm
      refine ⟨by kernel_rfl, fun j t ht => ?_⟩
      rw [Tryd.params4] at ht
      rcases j with _ | j
      · obtain rfl : t = 23 := by simpa using ht.symm
        exact (show Tryd.prog.wantsStandIn 23 = false by kernel_rfl)
      · simp at ht)
    (by kernel_rfl)
#print axioms card
end Go.Proofs.YtejbpfimgkpnlaaDoor.blakeLongsUpto
namespace Go.Proofs.YtejbpfimgkpnlaaDoor
/-- The statement, under a short name, for the claim. -/
theorem blakeLongsUpto_holds : Rows.BlakeLongsUptoCardSaid := blakeLongsUpto.card
end Go.Proofs.YtejbpfimgkpnlaaDoor
