/- slices.Backward over bytes: what its rounds are handed. -/
import Derived.RangeFuncNested
import Derived.RangeFuncBound
import Derived.RangeFuncCalls
import Derived.RangeFuncLeaves
import Derived.RangeFuncBox
import Derived.Shelf.Abstract
import Derived.Shelf.RegionOpen
import Derived.WalkKit
import Derived.OwnWalkIn
import Derived.TacticsInMore
import Derived.LoopNIn
import Derived.LoopIn
import Derived.Test.YtkeacmonhjhgeaaDoorProg
namespace Go.Proofs.YtkeacmonhjhgeaaDoor.Back
open Go.RowKit Go.Shelf
set_option linter.unusedVariables false
set_option linter.unusedSimpArgs false
attribute [local go_sem] Oper.semAt_some
/-- All that lay there lies as it lay, but for one block. -/
structure Sv (x n : Nat) (W W' : World) : Prop where
  os : W'.os = W.os
  tape : W'.tape = W.tape
  output : W'.output = W.output
  size : W.heap.size ≤ W'.heap.size
  same : ∀ B, B < n → B ≠ x → W'.heap[B]? = W.heap[B]?
theorem Sv.refl (x n : Nat) (W : World) : Sv x n W W := ⟨rfl, rfl, rfl, Nat.le_refl _, fun _ _ _ => rfl⟩
theorem Sv.trans {x n : Nat} {A B C : World} (h : Sv x n A B) (k : Sv x n B C) : Sv x n A C := ⟨k.os.trans h.os, k.tape.trans h.tape, k.output.trans h.output, Nat.le_trans h.size k.size, fun b h1 h2 => (k.same b h1 h2).trans (h.same b h1 h2)⟩
theorem Sv.cell {x n : Nat} {W W' : World} (h : Sv x n W W') {B o : Nat} (h1 : B < n) (h2 : B ≠ x) : W'.cell? ⟨B, o, none⟩ = W.cell? ⟨B, o, none⟩ := World.cell?_of_block (h.same B h1 h2)
theorem Sv.of_below {x n : Nat} {W W' : World} (h : Below n W W') : Sv x n W W' := ⟨h.os, h.tape, h.output, h.size, fun B h1 _ => h.block B h1⟩
/-- What has come when k rounds are over. -/
def upto {α : Type} (f : Nat → α) (k : Nat) : List α := (List.range k).map f
theorem upto_succ {α : Type} (f : Nat → α) (k : Nat) : upto f (k + 1) = upto f k ++ [f k] := by simp [upto, List.range_succ]
theorem upto_length {α : Type} (f : Nat → α) (k : Nat) : (upto f k).length = k := by simp [upto]
def back (zs : List Int) (len k : Nat) : Int × Int := (((len - 1 - k : Nat) : Int), zs[len - 1 - k]?.getD 0)
set_option maxRecDepth 100000 in
set_option maxHeartbeats 2000000 in
theorem back1_in (F : Fence) (n : Nat) (h7 : F.fn 39) (hro : F.round = none) (hn : 1 ≤ n) (l Bs x n₀ b off len cap : Nat) (zs : List Int) (hreach : len ≤ 1000000) (hb : b < n₀) (hbx : b ≠ x) (hBn : Bs < n₀) (hBx : Bs ≠ x) (J Jx : List (Int × Int) → World → Prop)
    (hY : ∀ pre y W, J pre W → pre.length < len → YieldAt F (n - 1) Tryd.prog l #[.int .i64 y.1, .int .u8 y.2] W fun e W' =>
      (e = .returned (.bool true) ∧ J (pre ++ [y]) W' ∧ Sv x n₀ W W') ∨ (e = .returned (.bool false) ∧ Jx (pre ++ [y]) W'))
    (W : World) (hBs : W.cell? ⟨Bs, 0, none⟩ = some (.slice (some ⟨b, off, none⟩) len cap)) (hc : ∀ j, j < len → W.cell? ⟨b, off + j, none⟩ = some (.int .u8 (zs[j]?.getD 0))) (h0 : J [] W) :
    CallsIn F n Tryd.prog 39 #[.func (.yield l) #[] #[], .pointer (some ⟨Bs, 0, none⟩)] W fun e W' => (∃ v, e = .returned v) ∧
      ((∃ ys, ys = upto (back zs len) len ∧ J ys W') ∨ (∃ pre, (∃ k, k ≤ len ∧ pre = upto (back zs len) k) ∧ Jx pre W')) := by
  refine callsIn_of_wp Tryd.func39 rfl h7 ?_ hro
  simp only [Tryd.ntmps39, List.size_toArray, List.length_cons, List.length_nil, Nat.reduceAdd, Nat.reduceSub, Array.replicate_succ, Array.replicate_zero, List.push_toArray, List.append_toArray, List.nil_append, List.cons_append]
  have hw : IntKind.i64.wrap ((len : Int) - 1) = (len : Int) - 1 := by rw [IntKind.wrap_i64]; omega
  gi_wp2
  gi_loopw [3] (fun i wr => ∃ k : Nat, k ≤ len ∧ i = .int .i64 ((len : Int) - 1 - k) ∧ J (upto (back zs len) k) wr ∧ Sv x n₀ W wr)
    (fun i _ => (intOf i + 1).toNat)
  case atStart => exact ⟨0, Nat.zero_le _, by simp, h0, Sv.refl _ _ _⟩
  case round =>
    obtain ⟨k, hk, rfl, hJs, hnx⟩ := hrel
    have hcb : wr.cell? ⟨Bs, 0, none⟩ = some (.slice (some ⟨b, off, none⟩) len cap) := (hnx.cell hBn hBx).trans hBs
    have hcx : k < len → wr.cell? ⟨b, off + (len - 1 - k), none⟩ = some (.int .u8 (zs[len - 1 - k]?.getD 0)) := fun h => (hnx.cell hb hbx).trans (hc _ (by omega))
    by_cases hlt : k < len
    · obtain ⟨m, hm⟩ : ∃ m : Nat, (len : Int) - 1 - k = m := ⟨len - 1 - k, by omega⟩
      have hm2 : len - 1 - k = m := by omega
      obtain ⟨fn, tmps, assign, body, hy, hR⟩ := hY _ (back zs len k) wr hJs (by rw [upto_length]; exact hlt)
      have hcx' := hcx hlt
      dsimp only [back] at hy
      rw [hm2] at hcx' hy
      rw [hm]
      gi_wp2
      refine hR.mono ?_
      rintro e W3 (⟨rfl, hJ3, hk3⟩ | ⟨rfl, hJx3⟩)
      · gi_wp2
        go_roundw
        case rel =>
          refine ⟨k + 1, by omega, ?_, by rw [upto_succ]; exact hJ3, hnx.trans hk3⟩
          simp only [Value.int.injEq, true_and]
          omega
        case measure =>
          simp [intOf]
      · gi_wp2
        refine bodyPost_ret (results_none rfl _ _ _) rfl ?_
        exact ⟨⟨_, rfl⟩, .inr ⟨_, ⟨k + 1, by omega, (upto_succ _ _).symm⟩, hJx3⟩⟩
    · obtain rfl : k = len := by omega
      have e : ((k : Int) - 1 - k) = -1 := by omega
      rw [e]
      gi_wp2
      go_end0
      exact ⟨⟨_, rfl⟩, .inl ⟨_, rfl, hJs⟩⟩
set_option maxRecDepth 100000 in
set_option maxHeartbeats 1000000 in
theorem back1_none (F : Fence) (n : Nat) (h7 : F.fn 39) (hro : F.round = none) (l Bs : Nat) (A : Option Addr) (cap : Nat) (J : List (Int × Int) → World → Prop) (W : World) (hBs : W.cell? ⟨Bs, 0, none⟩ = some (.slice A 0 cap)) (h0 : J [] W) :
    CallsIn F n Tryd.prog 39 #[.func (.yield l) #[] #[], .pointer (some ⟨Bs, 0, none⟩)] W fun e W' => (∃ v, e = .returned v) ∧ J [] W' := by
  refine callsIn_of_wp Tryd.func39 rfl h7 ?_ hro
  simp only [Tryd.ntmps39, List.size_toArray, List.length_cons, List.length_nil, Nat.reduceAdd, Nat.reduceSub, Array.replicate_succ, Array.replicate_zero, List.push_toArray, List.append_toArray, List.nil_append, List.cons_append]
  have hw : IntKind.i64.wrap (((0 : Nat) : Int) - 1) = -1 := by decide
  gi_wp2
  gi_loopw [3] (fun i wr => i = .int .i64 (-1) ∧ J [] wr) (fun _ _ => 0)
  case atStart => exact ⟨by simp, h0⟩
  case round =>
    obtain ⟨rfl, hJs⟩ := hrel
    gi_wp2
    go_end0
    exact ⟨⟨_, rfl⟩, hJs⟩
set_option maxHeartbeats 1000000 in
/-- The maker: the slice is boxed. -/
theorem back_in (F : Fence) (n : Nat) (h5 : F.fn 33) (hro : F.round = none) (a : Option Addr) (len cap : Nat) (w : World) :
    CallsIn F n Tryd.prog 33 #[.slice a len cap] w fun e w' => e = .returned (.func (.func 39) #[] #[.pointer (some ⟨w.heap.size, 0, none⟩)]) ∧ w' = w.alloc (.cells #[.slice a len cap] 22) := by
  refine callsIn_of_wp Tryd.func33 rfl h5 ?_ hro
  simp only [Tryd.ntmps33, List.size_toArray, List.length_cons, List.length_nil, Nat.reduceAdd, Nat.reduceSub, Array.replicate_succ, Array.replicate_zero, List.push_toArray, List.append_toArray, List.nil_append, List.cons_append]
  gi_wp2
  go_ret
  exact ⟨rfl, rfl⟩
/-- The slice's value, and its bytes, apart from a block. -/
def Bytes (x n : Nat) (W : World) (sv : Value) (zs : List Int) : Prop :=
  (∃ A cap, sv = .slice A 0 cap ∧ zs = []) ∨ ∃ b off cap, sv = .slice (some ⟨b, off, none⟩) zs.length cap ∧ b < n ∧ b ≠ x ∧ ∀ j, j < zs.length → W.cell? ⟨b, off + j, none⟩ = some (.int .u8 (zs[j]?.getD 0))
theorem Bytes.below {x n : Nat} {A B : World} (h : Below n A B) {sv : Value} {zs : List Int} : Bytes x n A sv zs → Bytes x n B sv zs
  | .inl e => .inl e
  | .inr ⟨b, off, cap, e, hb, hx, hc⟩ => .inr ⟨b, off, cap, e, hb, hx, fun j hj => (h.cell (p := ⟨b, off + j, none⟩) hb).trans (hc j hj)⟩
theorem back_stops (F : Fence) (n : Nat) (h7 : F.fn 39) (hro : F.round = none) (hn : 1 ≤ n) (Bs x : Nat) (sv : Value) (zs : List Int) (hreach : zs.length ≤ 1000000) (w : World) (hBs : Bs < w.heap.size) (hBx : Bs ≠ x)
    (hc : w.cell? ⟨Bs, 0, none⟩ = some sv) (hI : Bytes x w.heap.size w sv zs) :
    SeqStopsK F n Tryd.prog 39 #[.pointer (some ⟨Bs, 0, none⟩)] (fun y : Int × Int => #[Value.int .i64 y.1, .int .u8 y.2]) (Sv x w.heap.size) (fun ys => ys = upto (back zs zs.length) zs.length) (fun _ => True) zs.length w := fun l J Jx W hW _ _ hY h0 => by
  have hc' := (hW.cell (p := ⟨Bs, 0, none⟩) hBs).trans hc
  rcases hI.below hW with ⟨A, cap, rfl, rfl⟩ | ⟨b, off, cap, rfl, hb, hx, hcs⟩
  · exact (back1_none F n h7 hro l Bs A cap J W hc' h0).mono fun e W' ⟨he, hj⟩ => ⟨he, .inl ⟨_, rfl, hj⟩⟩
  · refine (back1_in F n h7 hro hn l Bs x w.heap.size b off zs.length cap zs hreach hb hx hBs hBx J Jx hY W hc' hcs h0).mono ?_
    rintro e W' ⟨he, ⟨ys, rfl, hj⟩ | ⟨pre, _, hj⟩⟩
    · exact ⟨he, .inl ⟨_, rfl, hj⟩⟩
    · exact ⟨he, .inr ⟨_, trivial, hj⟩⟩
end Go.Proofs.YtkeacmonhjhgeaaDoor.Back
