/- slices.Chunk over texts: what its rounds are handed. -/
import Derived.RangeFuncNested
import Derived.RangeFuncBound
import Derived.RangeFuncCalls
import Derived.RangeFuncLeaves
import Derived.RangeFuncBox
import Derived.Shelf.Abstract
import Derived.Shelf.RegionOpen
import Derived.WalkKit
import Derived.OwnWalkIn
import Derived.TacticsInMore
import Derived.LoopNIn
import Derived.LoopIn
import Derived.Test.YtdbpaahdonplbaaDoorProg
namespace Go.Proofs.YtdbpaahdonplbaaDoor.Chk
open Go.RowKit Go.Shelf
set_option linter.unusedVariables false
set_option linter.unusedSimpArgs false
attribute [local go_sem] Oper.semAt_some
/-- The k-th part of a slice, two by two. -/
def part (B o n k : Nat) : Value := .slice (some ⟨B, o + 2 * k, none⟩) (min 2 (n - 2 * k)) (min 2 (n - 2 * k))
/-- So many parts. -/
def parts (n : Nat) : Nat := (n + 1) / 2
structure Kr (R : Nat → Prop) (W W' : World) : Prop where
  size : W.heap.size ≤ W'.heap.size
  same : ∀ B, R B → W'.heap[B]? = W.heap[B]?
theorem Kr.refl (R : Nat → Prop) (W : World) : Kr R W W := ⟨Nat.le_refl _, fun _ _ => rfl⟩
theorem Kr.trans {R : Nat → Prop} {A B C : World} (h : Kr R A B) (k : Kr R B C) : Kr R A C := ⟨Nat.le_trans h.size k.size, fun b hb => (k.same b hb).trans (h.same b hb)⟩
theorem Kr.cell {R : Nat → Prop} {W W' : World} (h : Kr R W W') {B o : Nat} (h1 : R B) : W'.cell? ⟨B, o, none⟩ = W.cell? ⟨B, o, none⟩ := World.cell?_of_block (h.same B h1)
set_option maxRecDepth 100000 in
set_option maxHeartbeats 2000000 in
theorem chunk1_in (F : Fence) (m : Nat) (h7 : F.fn 36) (hro : F.round = none) (hn : 1 ≤ m) (R : Nat → Prop) (l B0 o0 B1 o1 B o n cap : Nat) (hreach : n ≤ 1000000) (hcap : n ≤ cap) (r0 : R B0) (r1 : R B1) (J Jx : List Nat → World → Prop) (hA : ∀ s W W', J s W → W.grownBy W' none → J s W')
    (hY : ∀ pre y W, J pre W → pre.length < parts n → YieldAt F (m - 1) Tryd.prog l #[part B o n y] W fun e W' =>
      (e = .returned (.bool true) ∧ J (pre ++ [y]) W' ∧ Kr R W W') ∨ (e = .returned (.bool false) ∧ Jx (pre ++ [y]) W'))
    (W : World) (h0 : W.cell? ⟨B0, o0, none⟩ = some (.slice (some ⟨B, o, none⟩) n cap)) (h1 : W.cell? ⟨B1, o1, none⟩ = some (.int .i64 2)) (hJ : J [] W) :
    CallsIn F m Tryd.prog 36 #[.func (.yield l) #[] #[], .pointer (some ⟨B0, o0, none⟩), .pointer (some ⟨B1, o1, none⟩)] W fun e W' => (∃ v, e = .returned v) ∧
      ((∃ ys, ys = List.range (parts n) ∧ J ys W') ∨ (∃ pre, (∃ k, k ≤ parts n ∧ pre = List.range k) ∧ Jx pre W')) := by
  refine callsIn_of_wp Tryd.func36 rfl h7 ?_ hro
  simp only [Tryd.ntmps36, List.size_toArray, List.length_cons, List.length_nil, Nat.reduceAdd, Nat.reduceSub, Array.replicate_succ, Array.replicate_zero, List.push_toArray, List.append_toArray, List.nil_append, List.cons_append]
  gi_wp2
  gi_loopw [4] (fun i wr => ∃ k : Nat, k ≤ parts n ∧ i = .int .i64 (2 * k : Nat) ∧ J (List.range k) wr ∧ Kr R W wr)
    (fun i _ => n + 2 - (intOf i).toNat)
  case atStart => exact ⟨0, Nat.zero_le _, by simp, hJ, Kr.refl _ _⟩
  case round =>
    obtain ⟨k, hk, rfl, hJs, hnx⟩ := hrel
    have c0 := (hnx.cell r0).trans h0
    have c1 := (hnx.cell r1).trans h1
    by_cases hlt : 2 * k < n
    · have hp : k < parts n := by unfold parts; omega
      have hJd : J (List.range k) wr.drew := hA _ _ _ hJs ⟨rfl, rfl, rfl, Nat.le_refl _, fun _ _ _ => rfl⟩
      obtain ⟨fn, tmps, assign, body, hy, hR⟩ := hY _ k wr.drew hJd (by simpa using hp)
      have hmn : (if ((n - 2 * k : Nat) : Int) < 2 then ((n - 2 * k : Nat) : Int) else 2) = ((min 2 (n - 2 * k) : Nat) : Int) := by split <;> omega
      obtain ⟨e, he⟩ : ∃ e, min 2 (n - 2 * k) = e := ⟨_, rfl⟩
      have he1 : 1 ≤ e ∧ e ≤ 2 ∧ 2 * k + e ≤ n := by omega
      unfold part at hy
      rw [he] at hmn hy
      gi_wp2
      gi_region
      gi_wp2
      all_goals
        refine hR.mono ?_
        rintro e' W3 (⟨rfl, hJ3, hk3⟩ | ⟨rfl, hJx3⟩)
        · have c13 := (hk3.cell r1).trans c1
          gi_wp2
          go_roundw
          case rel =>
            refine ⟨k + 1, by omega, ?_, by rw [List.range_succ]; exact hJ3, hnx.trans ((⟨Nat.le_refl _, fun _ _ => rfl⟩ : Kr R wr wr.drew).trans hk3)⟩
            simp only [Value.int.injEq, true_and]
            omega
          case measure =>
            simp [intOf]
            omega
        · gi_wp2
          refine bodyPost_ret (results_none rfl _ _ _) rfl ?_
          exact ⟨⟨_, rfl⟩, .inr ⟨_, ⟨k + 1, by omega, List.range_succ.symm⟩, hJx3⟩⟩
    · gi_wp2
      go_end0
      obtain rfl : k = parts n := by unfold parts at hk ⊢; omega
      exact ⟨⟨_, rfl⟩, .inl ⟨_, rfl, hJs⟩⟩
set_option maxRecDepth 100000 in
set_option maxHeartbeats 1000000 in
theorem chunk1_none (F : Fence) (m : Nat) (h7 : F.fn 36) (hro : F.round = none) (l B0 o0 : Nat) (p1 : Option Addr) (A : Option Addr) (cap : Nat) (J : List Nat → World → Prop) (W : World) (h0 : W.cell? ⟨B0, o0, none⟩ = some (.slice A 0 cap)) (hJ : J [] W) :
    CallsIn F m Tryd.prog 36 #[.func (.yield l) #[] #[], .pointer (some ⟨B0, o0, none⟩), .pointer p1] W fun e W' => (∃ v, e = .returned v) ∧ J [] W' := by
  refine callsIn_of_wp Tryd.func36 rfl h7 ?_ hro
  simp only [Tryd.ntmps36, List.size_toArray, List.length_cons, List.length_nil, Nat.reduceAdd, Nat.reduceSub, Array.replicate_succ, Array.replicate_zero, List.push_toArray, List.append_toArray, List.nil_append, List.cons_append]
  gi_wp2
  gi_loopw [4] (fun i wr => i = .int .i64 0 ∧ J [] wr ∧ wr.cell? ⟨B0, o0, none⟩ = some (.slice A 0 cap)) (fun _ _ => 0)
  case atStart => exact ⟨rfl, hJ, h0⟩
  case round =>
    obtain ⟨rfl, hJs, hc⟩ := hrel
    gi_wp2
    go_end0
    exact ⟨⟨_, rfl⟩, hJs⟩
/-- What Chunk's iterator hands out. -/
theorem chunk_stops (F : Fence) (m : Nat) (h7 : F.fn 36) (hro : F.round = none) (hn : 1 ≤ m) (R : Nat → Prop) (B0 o0 B1 o1 B o n cap : Nat) (hreach : n ≤ 1000000) (hcap : n ≤ cap) (r0 : R B0) (r1 : R B1) (w : World) (hl0 : B0 < w.heap.size) (hl1 : B1 < w.heap.size)
    (h0 : w.cell? ⟨B0, o0, none⟩ = some (.slice (some ⟨B, o, none⟩) n cap)) (h1 : w.cell? ⟨B1, o1, none⟩ = some (.int .i64 2)) :
    SeqStopsK F m Tryd.prog 36 #[.pointer (some ⟨B0, o0, none⟩), .pointer (some ⟨B1, o1, none⟩)] (fun y : Nat => #[part B o n y]) (Kr R) (fun ys => ys = List.range (parts n)) (fun _ => True) (parts n) w := fun l J Jx W hW hA _ hY hJ => by
  have h0' := (hW.cell (p := ⟨B0, o0, none⟩) hl0).trans h0
  have h1' := (hW.cell (p := ⟨B1, o1, none⟩) hl1).trans h1
  refine (chunk1_in F m h7 hro hn R l B0 o0 B1 o1 B o n cap hreach hcap r0 r1 J Jx (fun s A C hs hg => hA s A C none hs hg (fun r e => by cases e)) hY W h0' h1' hJ).mono ?_
  rintro e W' ⟨he, ⟨ys, rfl, hj⟩ | ⟨pre, _, hj⟩⟩
  · exact ⟨he, .inl ⟨_, rfl, hj⟩⟩
  · exact ⟨he, .inr ⟨_, trivial, hj⟩⟩
theorem chunk_stops0 (F : Fence) (m : Nat) (h7 : F.fn 36) (hro : F.round = none) (R : Nat → Prop) (B0 o0 : Nat) (p1 A : Option Addr) (cap : Nat) (v : Nat → Value) (w : World) (hl0 : B0 < w.heap.size)
    (h0 : w.cell? ⟨B0, o0, none⟩ = some (.slice A 0 cap)) :
    SeqStopsK F m Tryd.prog 36 #[.pointer (some ⟨B0, o0, none⟩), .pointer p1] (fun y : Nat => #[v y]) (Kr R) (fun ys => ys = []) (fun _ => True) 0 w := fun l J Jx W hW _ _ _ hJ => by
  have h0' := (hW.cell (p := ⟨B0, o0, none⟩) hl0).trans h0
  exact (chunk1_none F m h7 hro l B0 o0 p1 A cap J W h0' hJ).mono fun e W' ⟨he, hj⟩ => ⟨he, .inl ⟨_, rfl, hj⟩⟩
end Go.Proofs.YtdbpaahdonplbaaDoor.Chk
