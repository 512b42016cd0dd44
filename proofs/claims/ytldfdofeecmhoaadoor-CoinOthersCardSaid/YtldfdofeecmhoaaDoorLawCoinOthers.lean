/- The statement CoinOthersSaid and its tied card: for every input the law answers true and the input reads as it did, the listed variables holding what the program lays in them. -/
import Derived.Test.YtldfdofeecmhoaaDoorRows
import Derived.Test.YtldfdofeecmhoaaDoorCards
import Derived.Test.YtldfdofeecmhoaaDoorTie
import Derived.Test.YtldfdofeecmhoaaDoorPCoinOthersx1
import Derived.Test.YtldfdofeecmhoaaDoorPureCoinOthers
import Derived.Test.YtldfdofeecmhoaaDoorReads
import Derived.Test.YtldfdofeecmhoaaDoorLaid
import Derived.Test.YtldfdofeecmhoaaDoorGl
import Derived.WalkKit
import Derived.ProofKit
import Derived.OpenShut
import Derived.ShutString
import Derived.ChangeOld
import Derived.Below
import Derived.SizedLaws
import Derived.LaidMore
import Derived.Stop.Joined
import Derived.SevenTiedAt
namespace Go.Proofs.YtldfdofeecmhoaaDoor.coinOthers
open Go.ChangeShapes Go.WideShapes Go.ChangeAt Go.RowKit Go.Proofs.YtldfdofeecmhoaaDoorW.PrintWords
open Go.ChangeMaps (open_string shut_string)
set_option linter.unusedVariables false
theorem own : ownKnob Tryd.prog.godebug = none := by kernel_rfl
theorem laidOut : laidOutB Tryd.prog = true := by kernel_rfl
theorem door_met (os : Os) (args : Array Value) : laidMetH Tryd.prog Rows.coinOthersRow.laid ((World.doorLaid Tryd.prog 24 os).forCall (fun _ _ => 0) ⟨#[], args, []⟩).memory :=
  laidMetH_of_parts3 (fuel := 8) (laidMet_of_run' 8 (by kernel_rfl) (by kernel_rfl)) (by kernel_rfl) (by kernel_rfl)
theorem gl_of {W : World} (h : laidMetH Tryd.prog Rows.coinOthersRow.laid W) : Ext.GL W := by
  rw [MakeChecks.laidMetH_plain _ _ _ (by kernel_rfl)] at h
  have c0 := fun i => LaidCells.laid_cell h (n := "escutcheon/coin.base") (d := Rows.laid_escutcheon_coin_base) (by simp [Rows.coinOthersRow]) (g := 0) (t := 45) (k := 8) (l := Ext.cells_escutcheon_coin_base) (by kernel_rfl) (by kernel_rfl) (by kernel_rfl) i
  exact Ext.GL.of c0
set_option maxRecDepth 100000 in
theorem lifted (os : Os) (started : os.Started) (H : Type) (enc : TypeId × Value → H) :
    ReturnsInHanded {} Tryd.checked os 5 .any (fun w args => (Rows.coinOthersSpec.pre enc Tryd.prog Tryd.f5 [] false w args ∧ laidMetH Tryd.prog Rows.coinOthersRow.laid w) ∧ sizedMet enc Tryd.prog Tryd.f5 (OpenSpec.ofChange Rows.coinOthersSpec) false w args)
      (Rows.coinOthersSpec.post enc Tryd.prog Tryd.f5 false true false false) := by
  refine returnsInHanded_of_change_and (C := Tryd.checked) (X := fun w _ => laidMetH Tryd.prog Rows.coinOthersRow.laid w) (fun _ _ _ hh h => h.of_heap hh) own started (by kernel_rfl) Tryd.func5
    (ChangeSpec.witness_shaped (enc := enc) (C := Tryd.checked) (os := os) (X := fun w _ => laidMetH Tryd.prog Rows.coinOthersRow.laid w) false (World.doorLaid Tryd.prog 24 os) #[.slice none 0 0, .slice none 0 0] 8 rfl (World.shaped_of_RefB (by kernel_rfl) (by kernel_rfl)) (by kernel_rfl) (by kernel_rfl) (by kernel_rfl) (door_met os _)) ?_
  intro W base args ds gs before hval0 hW _ hsz0 hL _
  have hval : ∀ (j : Nat) t v, Tryd.f5.params[j]? = some t → args[j]? = some v → Value.okWide Tryd.prog W .any base t v := hval0
  have hW' := hW
  obtain ⟨p, q, hA0, hV, rfl, hfz, hnd⟩ := hW
  have hA : DataW.TrodAll enc Tryd.prog W 0 (fun _ => true) true Tryd.f5.params.toList args.toList ds p := hA0
  rw [Tryd.params5] at hA hval
  obtain ⟨v0, vs0, d0, ds0, p0, q0, hargs, rfl, rfl, h0, r0⟩ := trodAll_cons hA
  obtain ⟨v1, vs1, d1, ds1, p1, q1, rfl, rfl, rfl, h1, r1⟩ := trodAll_cons r0
  obtain ⟨rfl, rfl, rfl⟩ := trodAll_nil r1
  obtain rfl : args = #[v0, v1] := by cases args; simp_all
  obtain ⟨rfl, rfl⟩ := trodVars_none hV
  have k0 := h0
  have lt0 : ∀ x ∈ p0, x.block < W.heap.size := by obtain ⟨m, hm⟩ := k0; exact DataW.trod_lt m _ _ _ hm
  obtain ⟨A0, c0, l0, rfl, hc0, hr0, hm0, hw0⟩ := Reads.slice_arg Tryd.underlying27 (by kernel_rfl) (Reads.slice_is Tryd.underlying22 (by kernel_rfl) (Reads.int_is Tryd.underlying5)) h0 (okWide_slice Tryd.underlying27 (hval 0 27 v0 rfl rfl))
  have k1 := h1
  have lt1 : ∀ x ∈ p1, x.block < W.heap.size := by obtain ⟨m, hm⟩ := k1; exact DataW.trod_lt m _ _ _ hm
  obtain ⟨A1, c1, l1, rfl, hc1, hr1, hm1, hw1⟩ := Reads.slice_arg Tryd.underlying27 (by kernel_rfl) (Reads.slice_is Tryd.underlying22 (by kernel_rfl) (Reads.int_is Tryd.underlying5)) h1 (okWide_slice Tryd.underlying27 (hval 1 27 v1 rfl rfl))
  clear hA0 hval0 hsz0
  obtain ⟨k, h⟩ := Pure.CoinOthers l0 l1 hm0 hw0 hm1 hw1
  refine (PCoinOthers.escutcheonlaw01_CoinOthers.calls k (fun k_ => k_ < W.heap.size) A0 c0 l0 (fun k_ => k_ < W.heap.size) A1 c1 l1 true W (gl_of hL) (Kd.V_mk hc0 (Kd.C_F (Kd.heap_slice 5 (Kd.heap_int .u8)) hr0)) (Kd.V_mk hc1 (Kd.C_F (Kd.heap_slice 5 (Kd.heap_int .u8)) hr1)) h).mono fun e W' ⟨he, hbel⟩ => ?_
  have bel : Below W.heap.size W W' := hbel
  subst he
  exact ⟨_, rfl, _, _, _, [], _, [], hW', trodAll_mk1 (shut_bool Tryd.underlying4 _), (trodAll_cons_mk (Below.trod laidOut (by kernel_rfl) (of_decide_eq_true (by kernel_rfl)) k0 bel lt0) (trodAll_cons_mk (Below.trod laidOut (by kernel_rfl) (of_decide_eq_true (by kernel_rfl)) k1 bel lt1) trodAll_mk0)), rfl, bel.frame _, fun h => by cases h⟩
theorem over : Rows.coinOthersRow.holds Tryd.pinned (OpenSpec.ofChange Rows.coinOthersSpec) :=
  OpenClaim.holds_of_wide 5 Tryd.f5 rfl rfl rfl rfl rfl rfl rfl ⟨rfl, rfl, rfl, rfl, rfl⟩ rfl rfl rfl rfl rfl (by kernel_rfl) Tryd.func5 (by kernel_rfl)
    (of_decide_eq_true (by kernel_rfl)) (by unfold Func.isWrapper; first | (rw [if_pos (by decide +kernel)]; kernel_rfl) | (rw [if_neg (by decide +kernel)]; exact ⟨rfl, rfl⟩))
    (fun os started H enc _ => lifted os started H enc)
theorem card : Rows.CoinOthersCardSaid :=
  Claim7.holds_tied_plain_at .later [] [.wider] true (true, "3e97fdc562d1e17af9f2eea01fe0a2be3d0eccd0645c85a01d95b38c1a18a61b") false
    over (fun _ h => by cases h) (by kernel_rfl) (fun _ h => by cases h) coinOthers_row_tie rfl ⟨rfl, rfl⟩ (by kernel_rfl) rfl
    (fun f fn hf hfn => by
      obtain rfl : f = 5 := Option.some.inj ((show Tryd.prog.funcNamed "escutcheon/escutcheonlaw01.CoinOthers" = some 5 by kernel_rfl).symm.trans hf) |>.symm
      obtain rfl : fn = Tryd.f5 := (Option.some.inj (Tryd.func5.symm.trans hfn)).symm
      refine ⟨by kernel_rfl, fun j t ht => ?_⟩
      rw [Tryd.params5] at ht
      rcases j with _ | j
      · obtain rfl : t = 27 := by simpa using ht.symm
        exact (show Tryd.prog.wantsStandIn 27 = false by kernel_rfl)
      rcases j with _ | j
      · obtain rfl : t = 27 := by simpa using ht.symm
        exact (show Tryd.prog.wantsStandIn 27 = false by kernel_rfl)
      · simp at ht)
    (by kernel_rfl)
#print axioms card
end Go.Proofs.YtldfdofeecmhoaaDoor.coinOthers
namespace Go.Proofs.YtldfdofeecmhoaaDoor
/-- The statement, under a short name, for the claim. -/
theorem coinOthers_holds : Rows.CoinOthersCardSaid := coinOthers.card
end Go.Proofs.YtldfdofeecmhoaaDoor
