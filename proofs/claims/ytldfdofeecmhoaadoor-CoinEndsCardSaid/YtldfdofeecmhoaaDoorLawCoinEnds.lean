/- The statement CoinEndsSaid and its tied card: for every input the law answers true and the input reads as it did, the listed variables holding what the program lays in them. -/
import Derived.Test.YtldfdofeecmhoaaDoorRows
import Derived.Test.YtldfdofeecmhoaaDoorCards
import Derived.Test.YtldfdofeecmhoaaDoorTie
import Derived.Test.YtldfdofeecmhoaaDoorLaid
import Derived.Test.YtldfdofeecmhoaaDoorAbsRead
import Derived.Test.YtldfdofeecmhoaaDoorCoiO
import Derived.Lay
import Derived.MakeChecks
import Derived.WalkKit
import Derived.ProofKit
import Derived.OpenShut
import Derived.ShutString
import Derived.ChangeOld
import Derived.Below
import Derived.SizedLaws
import Derived.LaidMore
import Derived.Stop.Joined
import Derived.SevenTiedAt
namespace Go.Proofs.YtldfdofeecmhoaaDoor.coinEnds
open Go.ChangeShapes Go.WideShapes Go.ChangeAt Go.RowKit
open Go.ChangeMaps (open_string shut_string)
open Go.Abs (AV AR lawSig)
set_option linter.unusedVariables false
set_option linter.unusedSimpArgs false
theorem own : ownKnob Tryd.prog.godebug = none := by kernel_rfl
theorem laidOut : laidOutB Tryd.prog = true := by kernel_rfl
theorem door_met (os : Os) (args : Array Value) : laidMetH Tryd.prog Rows.coinEndsRow.laid ((World.doorLaid Tryd.prog 24 os).forCall (fun _ _ => 0) ⟨#[], args, []⟩).memory :=
  laidMetH_of_parts3 (fuel := 8) (laidMet_of_run' 8 (by kernel_rfl) (by kernel_rfl)) (by kernel_rfl) (by kernel_rfl)
theorem gl_of {W : World} (h : laidMetH Tryd.prog Rows.coinEndsRow.laid W) (g : Nat) : AR (lawSig W) W (Go.Abs.S.glob g) (.pointer (some ⟨g, 0, none⟩)) := by
  rw [MakeChecks.laidMetH_plain _ _ _ (by kernel_rfl)] at h
  unfold Go.Abs.S.glob
  by_cases e0 : g = 0
  · subst e0
    rw [if_pos rfl]
    exact Go.Abs.laid_ar (fun i => LaidCells.laid_cell h (n := "escutcheon/coin.base") (d := Rows.laid_escutcheon_coin_base) (by simp [Rows.coinEndsRow]) (g := 0) (t := 45) (k := 8) (l := Go.Abs.S.cells_escutcheon_coin_base) (by kernel_rfl) (by kernel_rfl) (by kernel_rfl) i) (of_decide_eq_true (by kernel_rfl)) Go.Abs.S.glob_escutcheon_coin_base
  rw [if_neg e0]
  exact AR.any _
set_option maxRecDepth 100000 in
theorem lifted (os : Os) (started : os.Started) (H : Type) (enc : TypeId × Value → H) :
    ReturnsInHanded {} Tryd.checked os 8 .any (fun w args => (Rows.coinEndsSpec.pre enc Tryd.prog Tryd.f8 [] false w args ∧ laidMetH Tryd.prog Rows.coinEndsRow.laid w) ∧ sizedMet enc Tryd.prog Tryd.f8 (OpenSpec.ofChange Rows.coinEndsSpec) false w args)
      (Rows.coinEndsSpec.post enc Tryd.prog Tryd.f8 false true false false) := by
  refine returnsInHanded_of_change_and (C := Tryd.checked) (X := fun w _ => laidMetH Tryd.prog Rows.coinEndsRow.laid w) (fun _ _ _ hh h => h.of_heap hh) own started (by kernel_rfl) Tryd.func8
    (ChangeSpec.witness_shaped (enc := enc) (C := Tryd.checked) (os := os) (X := fun w _ => laidMetH Tryd.prog Rows.coinEndsRow.laid w) false (World.doorLaid Tryd.prog 24 os) #[.slice none 0 0, .int .u16 0, .int .u8 0] 8 rfl (World.shaped_of_RefB (by kernel_rfl) (by kernel_rfl)) (by kernel_rfl) (by kernel_rfl) (by kernel_rfl) (door_met os _)) ?_
  intro W base args ds gs before hval0 hW _ hsz0 hL _
  have hval : ∀ (j : Nat) t v, Tryd.f8.params[j]? = some t → args[j]? = some v → Value.okWide Tryd.prog W .any base t v := hval0
  have hW' := hW
  obtain ⟨p, q, hA0, hV, rfl, hfz, hnd⟩ := hW
  have hA : DataW.TrodAll enc Tryd.prog W 0 (fun _ => true) true Tryd.f8.params.toList args.toList ds p := hA0
  rw [Tryd.params8] at hA hval
  obtain ⟨v0, vs0, d0, ds0, p0, q0, hargs, rfl, rfl, h0, r0⟩ := trodAll_cons hA
  obtain ⟨v1, vs1, d1, ds1, p1, q1, rfl, rfl, rfl, h1, r1⟩ := trodAll_cons r0
  obtain ⟨v2, vs2, d2, ds2, p2, q2, rfl, rfl, rfl, h2, r2⟩ := trodAll_cons r1
  obtain ⟨rfl, rfl, rfl⟩ := trodAll_nil r2
  obtain rfl : args = #[v0, v1, v2] := by cases args; simp_all
  obtain ⟨rfl, rfl⟩ := trodVars_none hV
  have k0 := h0
  have lt0 : ∀ x ∈ p0, x.block < W.heap.size := by obtain ⟨m, hm⟩ := k0; exact DataW.trod_lt m _ _ _ hm
  obtain ⟨l0, ⟨m0, w0⟩, a0, dt0⟩ := Go.Abs.Rd.arg1d (r := (Go.Abs.Rd.int .u8).slice.slice) (Go.Abs.Rd.slice_is Tryd.underlying27 (by kernel_rfl) (by decide) (Go.Abs.Rd.slice_is Tryd.underlying22 (by kernel_rfl) (by decide) (Go.Abs.Rd.int_is Tryd.underlying5))) rfl h0 (by obtain ⟨_, _, _, rfl⟩ := okWide_slice Tryd.underlying27 (hval 0 27 v0 rfl rfl); rfl)
  simp only [Go.Abs.rd_slice, Go.Abs.rd_arr, Go.Abs.flat_ints, Go.Abs.flat_rows, Go.Abs.flat_strs] at a0
  have b0 := Go.Abs.u8_wfs w0
  obtain ⟨l1, rfl, rfl, rfl, w1⟩ := open_int Tryd.underlying38 (hval 1 38 v1 rfl rfl) h1
  have z1 := w1
  simp [Lit.wf, IntKind.min, IntKind.max, IntKind.signed, IntKind.bits] at z1
  obtain ⟨l2, rfl, rfl, rfl, w2⟩ := open_int Tryd.underlying5 (hval 2 5 v2 rfl rfl) h2
  have z2 := w2
  simp [Lit.wf, IntKind.min, IntKind.max, IntKind.signed, IntKind.bits] at z2
  clear hA0 hval0 hsz0
  refine (Go.Abs.ACall.law (b := true) (G := Go.Abs.S.glob) (args := [AV.vsl l0.length (Go.Abs.rows .u8 l0) none, AV.v (.int .u16 l1), AV.v (.int .u8 l2)]) ((by obtain ⟨n1, rfl⟩ := Int.eq_ofNat_of_zero_le (show 0 ≤ l1 by omega); exact Go.Abs.S.ends_p l0 n1 l2 b0 (by omega) (by omega) [])) rfl ?_ (gl_of hL)).mono fun e W' ⟨he, hbel⟩ => ?_
  · intro j hj
    match j, hj with
    | 0, _ => exact a0
    | 1, _ => exact AR.v _
    | 2, _ => exact AR.v _
  have bel : Below W.heap.size W W' := hbel
  subst he
  exact ⟨_, rfl, _, _, _, [], _, [], hW', trodAll_mk1 (shut_bool Tryd.underlying4 _), (trodAll_cons_mk (Below.trod laidOut (by kernel_rfl) (of_decide_eq_true (by kernel_rfl)) k0 bel lt0) (trodAll_cons_mk (shut_int Tryd.underlying38 w1) (trodAll_cons_mk (shut_int Tryd.underlying5 w2) trodAll_mk0))), rfl, bel.frame _, fun h => by cases h⟩
theorem over : Rows.coinEndsRow.holds Tryd.pinned (OpenSpec.ofChange Rows.coinEndsSpec) :=
  OpenClaim.holds_of_wide 8 Tryd.f8 rfl rfl rfl rfl rfl rfl rfl ⟨rfl, rfl, rfl, rfl, rfl⟩ rfl rfl rfl rfl rfl (by kernel_rfl) Tryd.func8 (by kernel_rfl)
    (of_decide_eq_true (by kernel_rfl)) (by unfold Func.isWrapper; first | (rw [if_pos (by decide +kernel)]; kernel_rfl) | (rw [if_neg (by decide +kernel)]; exact ⟨rfl, rfl⟩))
    (fun os started H enc _ => lifted os started H enc)
theorem card : Rows.CoinEndsCardSaid :=
  Claim7.holds_tied_plain_at .later [] [.wider] true (true, "3e97fdc562d1e17af9f2eea01fe0a2be3d0eccd0645c85a01d95b38c1a18a61b") false
    over (fun _ h => by cases h) (by kernel_rfl) (fun _ h => by cases h) coinEnds_row_tie rfl ⟨rfl, rfl⟩ (by kernel_rfl) rfl
    (fun f fn hf hfn => by
      obtain rfl : f = 8 := Option.some.inj ((show Tryd.prog.funcNamed "escutcheon/escutcheonlaw01.CoinEnds" = some 8 by kernel_rfl).symm.trans hf) |>.symm
      obtain rfl : fn = Tryd.f8 := (Option.some.inj (Tryd.func8.symm.trans hfn)).symm
      refine ⟨by kernel_rfl, fun j t ht => ?_⟩
      rw [Tryd.params8] at ht
      rcases j with _ | j
      · obtain rfl : t = 27 := by simpa using ht.symm
        exact (show Tryd.prog.wantsStandIn 27 = false by kernel_rfl)
      rcases j with _ | j
      · obtain rfl : t = 38 := by simpa using ht.symm
        exact (show Tryd.prog.wantsStandIn 38 = false by kernel_rfl)
      rcases j with _ | j
      · obtain rfl : t = 5 := by simpa using ht.symm
        exact (show Tryd.prog.wantsStandIn 5 = false by kernel_rfl)
      · simp at ht)
    (by kernel_rfl)
#print axioms card
end Go.Proofs.YtldfdofeecmhoaaDoor.coinEnds
namespace Go.Proofs.YtldfdofeecmhoaaDoor
/-- The statement, under a short name, for the claim. -/
theorem coinEnds_holds : Rows.CoinEndsCardSaid := coinEnds.card
end Go.Proofs.YtldfdofeecmhoaaDoor
