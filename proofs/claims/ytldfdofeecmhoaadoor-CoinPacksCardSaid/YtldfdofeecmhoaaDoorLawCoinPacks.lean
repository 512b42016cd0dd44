/- The statement CoinPacksSaid and its tied card: for every input the law answers true and the input reads as it did, the listed variables holding what the program lays in them. -/
import Derived.Test.YtldfdofeecmhoaaDoorRows
import Derived.Test.YtldfdofeecmhoaaDoorCards
import Derived.Test.YtldfdofeecmhoaaDoorTie
import Derived.Test.YtldfdofeecmhoaaDoorLaid
import Derived.Test.YtldfdofeecmhoaaDoorAbsRead
import Derived.Test.YtldfdofeecmhoaaDoorCoiQ
import Derived.Lay
import Derived.MakeChecks
import Derived.WalkKit
import Derived.ProofKit
import Derived.OpenShut
import Derived.ShutString
import Derived.ChangeOld
import Derived.Below
import Derived.SizedLaws
import Derived.LaidMore
import Derived.Stop.Joined
import Derived.SevenTiedAt
namespace Go.Proofs.YtldfdofeecmhoaaDoor.coinPacks
open Go.ChangeShapes Go.WideShapes Go.ChangeAt Go.RowKit
open Go.ChangeMaps (open_string shut_string)
open Go.Abs (AV AR lawSig)
set_option linter.unusedVariables false
set_option linter.unusedSimpArgs false
theorem own : ownKnob Tryd.prog.godebug = none := by kernel_rfl
theorem laidOut : laidOutB Tryd.prog = true := by kernel_rfl
theorem door_met (os : Os) (args : Array Value) : laidMetH Tryd.prog Rows.coinPacksRow.laid ((World.doorLaid Tryd.prog 24 os).forCall (fun _ _ => 0) ⟨#[], args, []⟩).memory :=
  laidMetH_of_parts3 (fuel := 8) (laidMet_of_run' 8 (by kernel_rfl) (by kernel_rfl)) (by kernel_rfl) (by kernel_rfl)
theorem gl_of {W : World} (h : laidMetH Tryd.prog Rows.coinPacksRow.laid W) (g : Nat) : AR (lawSig W) W (Go.Abs.S.glob g) (.pointer (some ⟨g, 0, none⟩)) := by
  rw [MakeChecks.laidMetH_plain _ _ _ (by kernel_rfl)] at h
  unfold Go.Abs.S.glob
  by_cases e0 : g = 0
  · subst e0
    rw [if_pos rfl]
    exact Go.Abs.laid_ar (fun i => LaidCells.laid_cell h (n := "escutcheon/coin.base") (d := Rows.laid_escutcheon_coin_base) (by simp [Rows.coinPacksRow]) (g := 0) (t := 45) (k := 8) (l := Go.Abs.S.cells_escutcheon_coin_base) (by kernel_rfl) (by kernel_rfl) (by kernel_rfl) i) (of_decide_eq_true (by kernel_rfl)) Go.Abs.S.glob_escutcheon_coin_base
  rw [if_neg e0]
  exact AR.any _
set_option maxRecDepth 100000 in
theorem lifted (os : Os) (started : os.Started) (H : Type) (enc : TypeId × Value → H) :
    ReturnsInHanded {} Tryd.checked os 6 .any (fun w args => (Rows.coinPacksSpec.pre enc Tryd.prog Tryd.f6 [] false w args ∧ laidMetH Tryd.prog Rows.coinPacksRow.laid w) ∧ sizedMet enc Tryd.prog Tryd.f6 (OpenSpec.ofChange Rows.coinPacksSpec) false w args)
      (Rows.coinPacksSpec.post enc Tryd.prog Tryd.f6 false true false false) := by
  refine returnsInHanded_of_change_and (C := Tryd.checked) (X := fun w _ => laidMetH Tryd.prog Rows.coinPacksRow.laid w) (fun _ _ _ hh h => h.of_heap hh) own started (by kernel_rfl) Tryd.func6
    (ChangeSpec.witness_shaped (enc := enc) (C := Tryd.checked) (os := os) (X := fun w _ => laidMetH Tryd.prog Rows.coinPacksRow.laid w) false (World.doorLaid Tryd.prog 24 os) #[.slice none 0 0] 8 rfl (World.shaped_of_RefB (by kernel_rfl) (by kernel_rfl)) (by kernel_rfl) (by kernel_rfl) (by kernel_rfl) (door_met os _)) ?_
  intro W base args ds gs before hval0 hW _ hsz0 hL _
  have hval : ∀ (j : Nat) t v, Tryd.f6.params[j]? = some t → args[j]? = some v → Value.okWide Tryd.prog W .any base t v := hval0
  have hW' := hW
  obtain ⟨p, q, hA0, hV, rfl, hfz, hnd⟩ := hW
  have hA : DataW.TrodAll enc Tryd.prog W 0 (fun _ => true) true Tryd.f6.params.toList args.toList ds p := hA0
  rw [Tryd.params6] at hA hval
  obtain ⟨v0, vs0, d0, ds0, p0, q0, hargs, rfl, rfl, h0, r0⟩ := trodAll_cons hA
  obtain ⟨rfl, rfl, rfl⟩ := trodAll_nil r0
  obtain rfl : args = #[v0] := by cases args; simp_all
  obtain ⟨rfl, rfl⟩ := trodVars_none hV
  have k0 := h0
  have lt0 : ∀ x ∈ p0, x.block < W.heap.size := by obtain ⟨m, hm⟩ := k0; exact DataW.trod_lt m _ _ _ hm
  obtain ⟨l0, ⟨m0, w0⟩, a0, dt0⟩ := Go.Abs.Rd.arg1d (r := (Go.Abs.Rd.int .u8).slice.slice) (Go.Abs.Rd.slice_is Tryd.underlying27 (by kernel_rfl) (by decide) (Go.Abs.Rd.slice_is Tryd.underlying22 (by kernel_rfl) (by decide) (Go.Abs.Rd.int_is Tryd.underlying5))) rfl h0 (by obtain ⟨_, _, _, rfl⟩ := okWide_slice Tryd.underlying27 (hval 0 27 v0 rfl rfl); rfl)
  simp only [Go.Abs.rd_slice, Go.Abs.rd_arr, Go.Abs.flat_ints, Go.Abs.flat_rows, Go.Abs.flat_strs] at a0
  have b0 := Go.Abs.u8_wfs w0
  clear hA0 hval0 hsz0
  refine (Go.Abs.ACall.law (b := true) (G := Go.Abs.S.glob) (args := [AV.vsl l0.length (Go.Abs.rows .u8 l0) none]) ((Go.Abs.S.packs_p l0 b0 [])) rfl ?_ (gl_of hL)).mono fun e W' ⟨he, hbel⟩ => ?_
  · intro j hj
    match j, hj with
    | 0, _ => exact a0
  have bel : Below W.heap.size W W' := hbel
  subst he
  exact ⟨_, rfl, _, _, _, [], _, [], hW', trodAll_mk1 (shut_bool Tryd.underlying4 _), (trodAll_cons_mk (Below.trod laidOut (by kernel_rfl) (of_decide_eq_true (by kernel_rfl)) k0 bel lt0) trodAll_mk0), rfl, bel.frame _, fun h => by cases h⟩
theorem over : Rows.coinPacksRow.holds Tryd.pinned (OpenSpec.ofChange Rows.coinPacksSpec) :=
  OpenClaim.holds_of_wide 6 Tryd.f6 rfl rfl rfl rfl rfl rfl rfl ⟨rfl, rfl, rfl, rfl, rfl⟩ rfl rfl rfl rfl rfl (by kernel_rfl) Tryd.func6 (by kernel_rfl)
    (of_decide_eq_true (by kernel_rfl)) (by unfold Func.isWrapper; first | (rw [if_pos (by decide +kernel)]; kernel_rfl) | (rw [if_neg (by decide +kernel)]; exact ⟨rfl, rfl⟩))
    (fun os started H enc _ => lifted os started H enc)
theorem card : Rows.CoinPacksCardSaid :=
  Claim7.holds_tied_plain_at .later [] [.wider] true (true, "3e97fdc562d1e17af9f2eea01fe0a2be3d0eccd0645c85a01d95b38c1a18a61b") false
    over (fun _ h => by cases h) (by kernel_rfl) (fun _ h => by cases h) coinPacks_row_tie rfl ⟨rfl, rfl⟩ (by kernel_rfl) rfl
    (fun f fn hf hfn => by
      obtain rfl : f = 6 := Option.some.inj ((show Tryd.prog.funcNamed "escutcheon/escutcheonlaw01.CoinPacks" = some 6 by kernel_rfl).symm.trans hf) |>.symm
      obtain rfl : fn = Tryd.f6 := (Option.some.inj (Tryd.func6.symm.trans hfn)).symm
      refine ⟨by kernel_rfl, fun j t ht => ?_⟩
      rw [Tryd.params6] at ht
      rcases j with _ | j
      · obtain rfl : t = 27 := by simpa using ht.symm
        exact (show Tryd.prog.wantsStandIn 27 = false by kernel_rfl)
      · simp at ht)
    (by kernel_rfl)
#print axioms card
end Go.Proofs.YtldfdofeecmhoaaDoor.coinPacks
namespace Go.Proofs.YtldfdofeecmhoaaDoor
/-- The statement, under a short name, for the claim. -/
theorem coinPacks_holds : Rows.CoinPacksCardSaid := coinPacks.card
end Go.Proofs.YtldfdofeecmhoaaDoor
