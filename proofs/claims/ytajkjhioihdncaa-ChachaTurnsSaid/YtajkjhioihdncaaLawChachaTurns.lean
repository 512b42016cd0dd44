/- The statement ChachaTurnsSaid: for every input the law answers true and the input reads as it did. -/
import Derived.Test.YtajkjhioihdncaaRows
import Derived.Test.YtajkjhioihdncaaAbsRead
import Derived.Test.YtajkjhioihdncaaChaP
import Derived.WalkKit
import Derived.ProofKit
import Derived.OpenShut
import Derived.ShutString
import Derived.ChangeOld
import Derived.Below
import Derived.SizedLaws
import Derived.LaidMore
import Derived.Stop.Joined
import Derived.SevenTiedAt
namespace Go.Proofs.Ytajkjhioihdncaa.chachaTurns
open Go.ChangeShapes Go.WideShapes Go.ChangeAt Go.RowKit
open Go.ChangeMaps (open_string shut_string)
open Go.Abs (AV AR lawSig)
set_option linter.unusedVariables false
set_option linter.unusedSimpArgs false
theorem own : ownKnob Try.prog.godebug = none := by kernel_rfl
theorem laidOut : laidOutB Try.prog = true := by kernel_rfl
set_option maxRecDepth 100000 in
theorem lifted (os : Os) (started : os.Started) (H : Type) (enc : TypeId × Value → H) :
    ReturnsInHanded {} Try.checked os 5 .any (Rows.chachaTurnsSpec.pre6 enc Try.prog Try.f5 Rows.chachaTurnsRow.domain false) (Rows.chachaTurnsSpec.post enc Try.prog Try.f5 false true false false) := by
  refine returnsInHanded_of_change_sized (C := Try.checked) own started (by kernel_rfl) Try.func5
    (ChangeSpec.witness6 (enc := enc) (C := Try.checked) false ⟨#[], #[.slice none 0 0, .slice none 0 0, .agg (Array.replicate 2 (.slice none 0 0))], []⟩ 8 (by kernel_rfl) (by kernel_rfl) (by kernel_rfl) (by kernel_rfl)) ?_
  intro W base args ds gs before hval0 hW hcnd hsz0 _
  have hval : ∀ (j : Nat) t v, Try.f5.params[j]? = some t → args[j]? = some v → Value.okWide Try.prog W .any base t v := hval0
  have hW' := hW
  obtain ⟨p, q, hA0, hV, rfl, hfz, hnd⟩ := hW
  have hA : DataW.TrodAll enc Try.prog W 0 (fun _ => true) true Try.f5.params.toList args.toList ds p := hA0
  rw [Try.params5] at hA hval
  obtain ⟨v0, vs0, d0, ds0, p0, q0, hargs, rfl, rfl, h0, r0⟩ := trodAll_cons hA
  obtain ⟨v1, vs1, d1, ds1, p1, q1, rfl, rfl, rfl, h1, r1⟩ := trodAll_cons r0
  obtain ⟨v2, vs2, d2, ds2, p2, q2, rfl, rfl, rfl, h2, r2⟩ := trodAll_cons r1
  obtain ⟨rfl, rfl, rfl⟩ := trodAll_nil r2
  obtain rfl : args = #[v0, v1, v2] := by cases args; simp_all
  obtain ⟨rfl, rfl⟩ := trodVars_none hV
  have k0 := h0
  have lt0 : ∀ x ∈ p0, x.block < W.heap.size := by obtain ⟨m, hm⟩ := k0; exact DataW.trod_lt m _ _ _ hm
  obtain ⟨l0, ⟨m0, w0⟩, a0⟩ := Go.Abs.Rd.arg1 (r := (Go.Abs.Rd.int .u8).slice) (Go.Abs.Rd.slice_is Try.underlying26 (by kernel_rfl) (by decide) (Go.Abs.Rd.int_is Try.underlying5)) rfl h0 (by obtain ⟨_, _, _, rfl⟩ := okWide_slice Try.underlying26 (hval 0 26 v0 rfl rfl); rfl)
  simp only [Go.Abs.rd_slice, Go.Abs.rd_arr, Go.Abs.flat_ints, Go.Abs.flat_rows, Go.Abs.flat_strs] at a0
  have b0 := Go.Abs.u8_wf w0
  have k1 := h1
  have lt1 : ∀ x ∈ p1, x.block < W.heap.size := by obtain ⟨m, hm⟩ := k1; exact DataW.trod_lt m _ _ _ hm
  obtain ⟨l1, ⟨m1, w1⟩, a1⟩ := Go.Abs.Rd.arg1 (r := (Go.Abs.Rd.int .u8).slice) (Go.Abs.Rd.slice_is Try.underlying26 (by kernel_rfl) (by decide) (Go.Abs.Rd.int_is Try.underlying5)) rfl h1 (by obtain ⟨_, _, _, rfl⟩ := okWide_slice Try.underlying26 (hval 1 26 v1 rfl rfl); rfl)
  simp only [Go.Abs.rd_slice, Go.Abs.rd_arr, Go.Abs.flat_ints, Go.Abs.flat_rows, Go.Abs.flat_strs] at a1
  have b1 := Go.Abs.u8_wf w1
  have k2 := h2
  have lt2 : ∀ x ∈ p2, x.block < W.heap.size := by obtain ⟨m, hm⟩ := k2; exact DataW.trod_lt m _ _ _ hm
  obtain ⟨us2, rfl⟩ := Go.Abs.okWide_agg Try.underlying38 (hval 2 38 v2 rfl rfl)
  obtain ⟨l2, ⟨m2, w2⟩, a2⟩ := Go.Abs.Rd.argN (r := ((Go.Abs.Rd.int .u8).slice.arr 2)) (Go.Abs.Rd.arr_is Try.underlying38 (by kernel_rfl) (by kernel_rfl) (Go.Abs.Rd.slice_is Try.underlying26 (by kernel_rfl) (by decide) (Go.Abs.Rd.int_is Try.underlying5))) h2
  simp only [Go.Abs.rd_slice, Go.Abs.rd_arr, Go.Abs.flat_ints, Go.Abs.flat_rows, Go.Abs.flat_strs] at a2
  have b2 := Go.Abs.u8_wfs w2
  clear hA0 hval0 hsz0
  refine (Go.Abs.ACall.law (b := true) (G := Go.Abs.S.glob) (args := [AV.vsl l0.length (Go.Abs.ints .u8 l0) none, AV.vsl l1.length (Go.Abs.ints .u8 l1) none, AV.agg (Go.Abs.rows .u8 l2)]) ((by
    rcases l2 with _ | ⟨a, _ | ⟨b, _ | ⟨c, r⟩⟩⟩ <;> simp only [List.length_cons, List.length_nil, Nat.reduceEqDiff, Nat.reduceAdd] at m2 <;> try omega
    exact Go.Abs.S.turns_p l0 l1 a b b0 b1 (b2 a (by simp)) (b2 b (by simp)) [])) rfl ?_ (fun g => AR.any _)).mono fun e W' ⟨he, hbel⟩ => ?_
  · intro j hj
    match j, hj with
    | 0, _ => exact a0
    | 1, _ => exact a1
    | 2, _ => exact a2
  have bel : Below W.heap.size W W' := hbel
  subst he
  exact ⟨_, rfl, _, _, _, [], _, [], hW', trodAll_mk1 (shut_bool Try.underlying4 _), (trodAll_cons_mk (Below.trod laidOut (by kernel_rfl) (of_decide_eq_true (by kernel_rfl)) k0 bel lt0) (trodAll_cons_mk (Below.trod laidOut (by kernel_rfl) (of_decide_eq_true (by kernel_rfl)) k1 bel lt1) (trodAll_cons_mk (Below.trod laidOut (by kernel_rfl) (of_decide_eq_true (by kernel_rfl)) k2 bel lt2) trodAll_mk0))), rfl, bel.frame _, fun h => by cases h⟩
theorem over : Rows.chachaTurnsRow.holds Try.pinned (OpenSpec.ofChange Rows.chachaTurnsSpec) :=
  OpenClaim.holds_of_wide 5 Try.f5 rfl rfl rfl rfl rfl rfl rfl ⟨rfl, rfl, rfl, rfl, rfl⟩ rfl rfl rfl rfl rfl (by kernel_rfl) Try.func5 (by kernel_rfl)
    (of_decide_eq_true (by kernel_rfl)) (by unfold Func.isWrapper; first | (rw [if_pos (by decide +kernel)]; kernel_rfl) | (rw [if_neg (by decide +kernel)]; exact ⟨rfl, rfl⟩))
    (fun os started H enc _ => lifted os started H enc)
theorem proved : Rows.ChachaTurnsSaid := over
#print axioms proved
end Go.Proofs.Ytajkjhioihdncaa.chachaTurns
namespace Go.Proofs.Ytajkjhioihdncaa
/-- The statement, under a short name, for the claim. -/
theorem chachaTurns_holds : Rows.ChachaTurnsSaid := chachaTurns.proved
end Go.Proofs.Ytajkjhioihdncaa
