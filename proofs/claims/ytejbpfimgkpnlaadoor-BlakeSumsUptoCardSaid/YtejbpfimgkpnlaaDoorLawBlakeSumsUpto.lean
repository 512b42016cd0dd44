/- The statement BlakeSumsSaid and its tied card: for every input the law answers true and the input reads as it did, the listed variables holding what the program lays in them. -/
import Derived.Test.YtejbpfimgkpnlaaDoorRows
import Derived.Test.YtejbpfimgkpnlaaDoorCards
import Derived.Test.YtejbpfimgkpnlaaDoorTie
import Derived.Test.YtejbpfimgkpnlaaDoorLaid
import Derived.Test.YtejbpfimgkpnlaaDoorAbsRead
import Derived.Test.YtejbpfimgkpnlaaDoorAbsUpto
import Derived.Test.YtejbpfimgkpnlaaDoorBlaI
import Derived.Deep.DeepHandedRow
import Derived.WalkKit
import Derived.ProofKit
import Derived.OpenShut
import Derived.ShutString
import Derived.ChangeOld
import Derived.Below
import Derived.SizedLaws
import Derived.LaidMore
import Derived.Stop.Joined
import Derived.SevenTiedAt
namespace Go.Proofs.YtejbpfimgkpnlaaDoor.blakeSumsUpto
open Go.ChangeShapes Go.WideShapes Go.ChangeAt Go.RowKit
open Go.ChangeMaps (open_string shut_string)
open Go.Abs (AV AR lawSig)
set_option linter.unusedVariables false
set_option linter.unusedSimpArgs false
theorem own : ownKnob Tryd.prog.godebug = none := by kernel_rfl
theorem laidOut : laidOutB Tryd.prog = true := by kernel_rfl
theorem door_met (os : Os) (args : Array Value) : laidMetH Tryd.prog Rows.blakeSumsUptoRow.laid ((World.doorLaid Tryd.prog 42 os).forCall (fun _ _ => 0) ⟨#[], args, []⟩).memory :=
  laidMetH_of_parts3 (fuel := 8) (laidMet_of_run' 8 (by kernel_rfl) (by kernel_rfl)) (by kernel_rfl) (by kernel_rfl)
theorem gl_of {W : World} (h : laidMetH Tryd.prog Rows.blakeSumsUptoRow.laid W) (g : Nat) : AR (lawSig W) W (Go.Abs.S.glob g) (.pointer (some ⟨g, 0, none⟩)) := by
  rw [MakeChecks.laidMetH_plain _ _ _ (by kernel_rfl)] at h
  unfold Go.Abs.S.glob
  by_cases e0 : g = 0
  · subst e0
    rw [if_pos rfl]
    exact Go.Abs.laid_ar (fun i => LaidCells.laid_cell h (n := "escutcheon/api.Start512") (d := Rows.laid_escutcheon_api_Start512) (by simp [Rows.blakeSumsUptoRow]) (g := 0) (t := 40) (k := 8) (l := Go.Abs.S.cells_escutcheon_api_Start512) (by kernel_rfl) (by kernel_rfl) (by kernel_rfl) i) (of_decide_eq_true (by kernel_rfl)) Go.Abs.S.glob_escutcheon_api_Start512
  rw [if_neg e0]
  by_cases e1 : g = 1
  · subst e1
    rw [if_pos rfl]
    exact Go.Abs.laid_ar (fun i => LaidCells.laid_cell h (n := "escutcheon/api.Turns") (d := Rows.laid_escutcheon_api_Turns) (by simp [Rows.blakeSumsUptoRow]) (g := 1) (t := 55) (k := 8) (l := Go.Abs.S.cells_escutcheon_api_Turns) (by kernel_rfl) (by kernel_rfl) (by kernel_rfl) i) (of_decide_eq_true (by kernel_rfl)) Go.Abs.S.glob_escutcheon_api_Turns
  rw [if_neg e1]
  by_cases e2 : g = 2
  · subst e2
    rw [if_pos rfl]
    exact Go.Abs.laid_ar (fun i => LaidCells.laid_cell h (n := "escutcheon/blake.places") (d := Rows.laid_escutcheon_blake_places) (by simp [Rows.blakeSumsUptoRow]) (g := 2) (t := 57) (k := 8) (l := Go.Abs.S.cells_escutcheon_blake_places) (by kernel_rfl) (by kernel_rfl) (by kernel_rfl) i) (of_decide_eq_true (by kernel_rfl)) Go.Abs.S.glob_escutcheon_blake_places
  rw [if_neg e2]
  exact AR.any _
theorem reads (os : Os) {H : Type} (enc : TypeId × Value → H) : ∃ places, DataW.whole enc Tryd.prog ((World.doorLaid Tryd.prog 42 os).forCall (fun _ _ => 0) ⟨#[], #[.int .i64 0, .slice none 0 0, .slice none 0 0], []⟩).memory Tryd.f3.params.toList Rows.blakeSumsSpec.vars false (#[.int .i64 0, .slice none 0 0, .slice none 0 0] : Array Value).toList 8 = some ([.lit (.int .i64 0), .nil, .nil], [], places) :=
  ⟨[], by kernel_rfl⟩
set_option maxRecDepth 100000 in
theorem lifted (os : Os) (started : os.Started) (H : Type) (enc : TypeId × Value → H) (F : Stop.Interp) :
    ReturnsInHanded {} Tryd.checked os 3 .any ((Rows.OpenSpec.upto Rows.blakeSumsSpec).preRow enc Tryd.prog Tryd.f3 Rows.blakeSumsUptoRow.domain false Rows.blakeSumsUptoRow.laid) (((Rows.OpenSpec.upto Rows.blakeSumsSpec).at F).post enc Tryd.prog Tryd.f3 false true false false) := by
  obtain ⟨places, hx⟩ := reads os enc
  refine returnsInHanded_of_row (C := Tryd.checked) (s := Rows.OpenSpec.upto Rows.blakeSumsSpec) own started (by kernel_rfl) Tryd.func3
    (witness_row_at (enc := enc) (C := Tryd.checked) false (World.doorLaid Tryd.prog 42 os) #[.int .i64 0, .slice none 0 0, .slice none 0 0] rfl (by kernel_rfl) (by kernel_rfl) (by kernel_rfl)
      (OpenSpec.preRow_of_cond 8 hx (by kernel_rfl) (fun k hk => by cases hk; kernel_rfl) (by kernel_rfl) (door_met os _))) ?_
  intro W base args ds gs before hval0 hW _ hcond hsz0 hL _ _
  refine (show Calls Tryd.prog 3 args W (fun e W' => ∃ v, e = .returned v ∧ Rows.blakeSumsSpec.post enc Tryd.prog Tryd.f3 false true false false W args v W') from ?_)
  have hk := hcond _ rfl
  have hval : ∀ (j : Nat) t v, Tryd.f3.params[j]? = some t → args[j]? = some v → Value.okWide Tryd.prog W .any base t v := hval0
  have hW' := hW
  obtain ⟨p, q, hA0, hV, rfl, hfz, hnd⟩ := hW
  have hA : DataW.TrodAll enc Tryd.prog W 0 (fun _ => true) true Tryd.f3.params.toList args.toList ds p := hA0
  rw [Tryd.params3] at hA hval
  obtain ⟨v0, vs0, d0, ds0, p0, q0, hargs, rfl, rfl, h0, r0⟩ := trodAll_cons hA
  obtain ⟨v1, vs1, d1, ds1, p1, q1, rfl, rfl, rfl, h1, r1⟩ := trodAll_cons r0
  obtain ⟨v2, vs2, d2, ds2, p2, q2, rfl, rfl, rfl, h2, r2⟩ := trodAll_cons r1
  obtain ⟨rfl, rfl, rfl⟩ := trodAll_nil r2
  obtain rfl : args = #[v0, v1, v2] := by cases args; simp_all
  obtain ⟨rfl, rfl⟩ := trodVars_none hV
  obtain ⟨l0, rfl, rfl, rfl, w0⟩ := open_int Tryd.underlying3 (hval 0 3 v0 rfl rfl) h0
  have z0 := w0
  simp [Lit.wf, IntKind.min, IntKind.max, IntKind.signed, IntKind.bits] at z0
  have k1 := h1
  have lt1 : ∀ x ∈ p1, x.block < W.heap.size := by obtain ⟨m, hm⟩ := k1; exact DataW.trod_lt m _ _ _ hm
  obtain ⟨l1, ⟨m1, w1⟩, a1, dt1⟩ := Go.Abs.Rd.arg1d (r := (Go.Abs.Rd.int .u8).slice) (Go.Abs.Rd.slice_is Tryd.underlying22 (by kernel_rfl) (by decide) (Go.Abs.Rd.int_is Tryd.underlying5)) rfl h1 (by obtain ⟨_, _, _, rfl⟩ := okWide_slice Tryd.underlying22 (hval 1 22 v1 rfl rfl); rfl)
  simp only [Go.Abs.rd_slice, Go.Abs.rd_arr, Go.Abs.flat_ints, Go.Abs.flat_rows, Go.Abs.flat_strs] at a1
  have b1 := Go.Abs.u8_wf w1
  have k2 := h2
  have lt2 : ∀ x ∈ p2, x.block < W.heap.size := by obtain ⟨m, hm⟩ := k2; exact DataW.trod_lt m _ _ _ hm
  obtain ⟨l2, ⟨m2, w2⟩, a2, dt2⟩ := Go.Abs.Rd.arg1d (r := (Go.Abs.Rd.int .u8).slice.slice) (Go.Abs.Rd.slice_is Tryd.underlying23 (by kernel_rfl) (by decide) (Go.Abs.Rd.slice_is Tryd.underlying22 (by kernel_rfl) (by decide) (Go.Abs.Rd.int_is Tryd.underlying5))) rfl h2 (by obtain ⟨_, _, _, rfl⟩ := okWide_slice Tryd.underlying23 (hval 2 23 v2 rfl rfl); rfl)
  simp only [Go.Abs.rd_slice, Go.Abs.rd_arr, Go.Abs.flat_ints, Go.Abs.flat_rows, Go.Abs.flat_strs] at a2
  have b2 := Go.Abs.u8_wfs w2
  clear hA0 hval0 hsz0
  refine (Go.Abs.ACall.law (b := true) (G := Go.Abs.S.glob) (args := [AV.v (.int .i64 l0), AV.vsl l1.length (Go.Abs.ints .u8 l1) none, AV.vsl l2.length (Go.Abs.rows .u8 l2) none]) ((by
    have hb := Go.Abs.bulk_bound hk
    have h2 := Go.Abs.bulk_rows dt2
    have h3 := Go.Abs.bulk_rowsN dt2
    simp only [List.append_nil, Rows.uptoBulkAll] at hb
    exact Go.Abs.S.sums_p l0 l1 l2 b1 b2 (by omega) (by omega) [])) rfl ?_ (gl_of hL)).mono fun e W' ⟨he, hbel⟩ => ?_
  · intro j hj
    match j, hj with
    | 0, _ => exact AR.v _
    | 1, _ => exact a1
    | 2, _ => exact a2
  have bel : Below W.heap.size W W' := hbel
  subst he
  exact ⟨_, rfl, _, _, _, [], _, [], hW', trodAll_mk1 (shut_bool Tryd.underlying4 _), (trodAll_cons_mk (shut_int Tryd.underlying3 w0) (trodAll_cons_mk (Below.trod laidOut (by kernel_rfl) (of_decide_eq_true (by kernel_rfl)) k1 bel lt1) (trodAll_cons_mk (Below.trod laidOut (by kernel_rfl) (of_decide_eq_true (by kernel_rfl)) k2 bel lt2) trodAll_mk0))), rfl, bel.frame _, fun h => by cases h⟩
theorem over : Rows.blakeSumsUptoRow.holds Tryd.pinned (Rows.OpenSpec.upto Rows.blakeSumsSpec) :=
  OpenClaim.holds_of_cond 3 Tryd.f3 rfl rfl rfl rfl rfl rfl rfl ⟨rfl, rfl, rfl, rfl, rfl⟩ rfl rfl rfl rfl rfl (by kernel_rfl) Tryd.func3 (by kernel_rfl)
    (of_decide_eq_true (by kernel_rfl)) (by unfold Func.isWrapper; first | (rw [if_pos (by decide +kernel)]; kernel_rfl) | (rw [if_neg (by decide +kernel)]; exact ⟨rfl, rfl⟩))
    (fun os started H enc _ F => by rw [OpenClaim.pre_eq_preRow]; exact lifted os started H enc F)
theorem card : Rows.BlakeSumsUptoCardSaid :=
  Claim7.holds_tied_plain_at .later [] [.widerDeep, .data, .data] true (true, "b0515ecfd6dbfd8cc175e8eecb6149c625370a464d55928fc61a09b9c0996ca4") false
    over (fun _ h => by cases h) (by kernel_rfl) (fun _ h => by cases h) blakeSumsUpto_row_tie rfl ⟨rfl, rfl⟩ (by kernel_rfl) rfl
    (fun f fn hf hfn => by
      obtain rfl : f = 3 := Option.some.inj ((show Tryd.prog.funcNamed "escutcheon/escutcheonlaw04.BlakeSums" = some 3 by kernel_rfl).symm.trans hf) |>.symm
      obtain rfl : fn = Tryd.f3 := (Option.some.inj (Tryd.func3.symm.trans hfn)).symm
      refine ⟨by kernel_rfl, fun j t ht => ?_⟩
      rw [Tryd.params3] at ht
      rcases j with _ | j
      · obtain rfl : t = 3 := by simpa using ht.symm
        exact (show Tryd.prog.wantsStandIn 3 = false by kernel_rfl)
      rcases j with _ | j
      · obtain rfl : t = 22 := by simpa using ht.symm
        exact (show Tryd.prog.wantsStandIn 22 = false by kernel_rfl)
      rcases j with _ | j
      · obtain rfl : t = 23 := by simpa using ht.symm
        exact (show Tryd.prog.wantsStandIn 23 = false by kernel_rfl)
      · simp at ht)
    (by kernel_rfl)
#print axioms card
end Go.Proofs.YtejbpfimgkpnlaaDoor.blakeSumsUpto
namespace Go.Proofs.YtejbpfimgkpnlaaDoor
/-- The statement, under a short name, for the claim. -/
theorem blakeSumsUpto_holds : Rows.BlakeSumsUptoCardSaid := blakeSumsUpto.card
end Go.Proofs.YtejbpfimgkpnlaaDoor
