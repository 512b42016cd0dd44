/- The statement ChachaStreamsSaid: for every input the law answers true and the input reads as it did. -/
import Derived.Test.YtajkjhioihdncaaRows
import Derived.Test.YtajkjhioihdncaaAbsRead
import Derived.Test.YtajkjhioihdncaaChaO
import Derived.WalkKit
import Derived.ProofKit
import Derived.OpenShut
import Derived.ShutString
import Derived.ChangeOld
import Derived.Below
import Derived.SizedLaws
import Derived.LaidMore
import Derived.Stop.Joined
import Derived.SevenTiedAt
namespace Go.Proofs.Ytajkjhioihdncaa.chachaStreams
open Go.ChangeShapes Go.WideShapes Go.ChangeAt Go.RowKit
open Go.ChangeMaps (open_string shut_string)
open Go.Abs (AV AR lawSig)
set_option linter.unusedVariables false
theorem own : ownKnob Try.prog.godebug = none := by kernel_rfl
theorem laidOut : laidOutB Try.prog = true := by kernel_rfl
set_option maxRecDepth 100000 in
theorem lifted (os : Os) (started : os.Started) (H : Type) (enc : TypeId × Value → H) :
    ReturnsInHanded {} Try.checked os 6 .any (Rows.chachaStreamsSpec.pre6 enc Try.prog Try.f6 Rows.chachaStreamsRow.domain false) (Rows.chachaStreamsSpec.post enc Try.prog Try.f6 false true false false) := by
  refine returnsInHanded_of_change_sized (C := Try.checked) own started (by kernel_rfl) Try.func6
    (ChangeSpec.witness6 (enc := enc) (C := Try.checked) false ⟨#[], #[.agg (Array.replicate 32 (.int .u8 0)), .agg (Array.replicate 24 (.int .u8 0)), .agg (Array.replicate 2 (.int .u8 0))], []⟩ 8 (by kernel_rfl) (by kernel_rfl) (by kernel_rfl) (by kernel_rfl)) ?_
  intro W base args ds gs before hval0 hW hcnd hsz0 _
  have hval : ∀ (j : Nat) t v, Try.f6.params[j]? = some t → args[j]? = some v → Value.okWide Try.prog W .any base t v := hval0
  have hW' := hW
  obtain ⟨p, q, hA0, hV, rfl, hfz, hnd⟩ := hW
  have hA : DataW.TrodAll enc Try.prog W 0 (fun _ => true) true Try.f6.params.toList args.toList ds p := hA0
  rw [Try.params6] at hA hval
  obtain ⟨v0, vs0, d0, ds0, p0, q0, hargs, rfl, rfl, h0, r0⟩ := trodAll_cons hA
  obtain ⟨v1, vs1, d1, ds1, p1, q1, rfl, rfl, rfl, h1, r1⟩ := trodAll_cons r0
  obtain ⟨v2, vs2, d2, ds2, p2, q2, rfl, rfl, rfl, h2, r2⟩ := trodAll_cons r1
  obtain ⟨rfl, rfl, rfl⟩ := trodAll_nil r2
  obtain rfl : args = #[v0, v1, v2] := by cases args; simp_all
  obtain ⟨rfl, rfl⟩ := trodVars_none hV
  have k0 := h0
  have lt0 : ∀ x ∈ p0, x.block < W.heap.size := by obtain ⟨m, hm⟩ := k0; exact DataW.trod_lt m _ _ _ hm
  obtain ⟨l0, rfl, m0, w0⟩ := Go.Abs.array_arg Try.underlying22 Try.underlying5 (by kernel_rfl) (by kernel_rfl) (hval 0 22 v0 rfl rfl) h0
  have b0 := Go.Abs.u8_wf w0
  have k1 := h1
  have lt1 : ∀ x ∈ p1, x.block < W.heap.size := by obtain ⟨m, hm⟩ := k1; exact DataW.trod_lt m _ _ _ hm
  obtain ⟨l1, rfl, m1, w1⟩ := Go.Abs.array_arg Try.underlying33 Try.underlying5 (by kernel_rfl) (by kernel_rfl) (hval 1 33 v1 rfl rfl) h1
  have b1 := Go.Abs.u8_wf w1
  have k2 := h2
  have lt2 : ∀ x ∈ p2, x.block < W.heap.size := by obtain ⟨m, hm⟩ := k2; exact DataW.trod_lt m _ _ _ hm
  obtain ⟨l2, rfl, m2, w2⟩ := Go.Abs.array_arg Try.underlying42 Try.underlying5 (by kernel_rfl) (by kernel_rfl) (hval 2 42 v2 rfl rfl) h2
  have b2 := Go.Abs.u8_wf w2
  clear hA0 hval0 hsz0
  refine (Go.Abs.ACall.law (b := true) (G := Go.Abs.S.glob) (args := [AV.agg (Go.Abs.ints .u8 l0), AV.agg (Go.Abs.ints .u8 l1), AV.agg (Go.Abs.ints .u8 l2)]) ((by
    rcases l2 with _ | ⟨a, _ | ⟨b, _ | ⟨c, r⟩⟩⟩ <;> simp only [List.length_cons, List.length_nil, Nat.reduceEqDiff, Nat.reduceAdd] at m2 <;> try omega
    have ha := b2 a (by simp)
    have hb := b2 b (by simp)
    obtain ⟨x, rfl⟩ := Int.eq_ofNat_of_zero_le ha.1
    obtain ⟨y, rfl⟩ := Int.eq_ofNat_of_zero_le hb.1
    exact Go.Abs.S.streams_p l0 l1 x y m0 m1 b0 b1 (by omega) (by omega) [])) rfl ?_ (fun g => AR.any _)).mono fun e W' ⟨he, hbel⟩ => ?_
  · intro j hj
    match j, hj with
    | 0, _ => exact Go.Abs.array_ar _ _
    | 1, _ => exact Go.Abs.array_ar _ _
    | 2, _ => exact Go.Abs.array_ar _ _
  have bel : Below W.heap.size W W' := hbel
  subst he
  exact ⟨_, rfl, _, _, _, [], _, [], hW', trodAll_mk1 (shut_bool Try.underlying4 _), (trodAll_cons_mk (Below.trod laidOut (by kernel_rfl) (of_decide_eq_true (by kernel_rfl)) k0 bel lt0) (trodAll_cons_mk (Below.trod laidOut (by kernel_rfl) (of_decide_eq_true (by kernel_rfl)) k1 bel lt1) (trodAll_cons_mk (Below.trod laidOut (by kernel_rfl) (of_decide_eq_true (by kernel_rfl)) k2 bel lt2) trodAll_mk0))), rfl, bel.frame _, fun h => by cases h⟩
theorem over : Rows.chachaStreamsRow.holds Try.pinned (OpenSpec.ofChange Rows.chachaStreamsSpec) :=
  OpenClaim.holds_of_wide 6 Try.f6 rfl rfl rfl rfl rfl rfl rfl ⟨rfl, rfl, rfl, rfl, rfl⟩ rfl rfl rfl rfl rfl (by kernel_rfl) Try.func6 (by kernel_rfl)
    (of_decide_eq_true (by kernel_rfl)) (by unfold Func.isWrapper; first | (rw [if_pos (by decide +kernel)]; kernel_rfl) | (rw [if_neg (by decide +kernel)]; exact ⟨rfl, rfl⟩))
    (fun os started H enc _ => lifted os started H enc)
theorem proved : Rows.ChachaStreamsSaid := over
#print axioms proved
end Go.Proofs.Ytajkjhioihdncaa.chachaStreams
namespace Go.Proofs.Ytajkjhioihdncaa
/-- The statement, under a short name, for the claim. -/
theorem chachaStreams_holds : Rows.ChachaStreamsSaid := chachaStreams.proved
end Go.Proofs.Ytajkjhioihdncaa
