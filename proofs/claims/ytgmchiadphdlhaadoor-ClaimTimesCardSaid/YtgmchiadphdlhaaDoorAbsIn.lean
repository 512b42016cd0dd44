/- Rows of operations, and loops, in a round of a range over a function, too. -/
import Derived.Test.YtgmchiadphdlhaaDoorAbsLate
import Derived.TacticsIn
import Derived.OrdersIn
import Derived.LoopNIn
import Derived.Deep.LoopGhost
namespace Go.Abs
set_option linter.unusedVariables false
set_option linter.unusedSimpArgs false
variable {P : Program} {ops : Array Oper} {Q : Exit → Act → World → Prop} {ro : Option Nat} {n : Nat}
/-- No bound but that a round may be under way. -/
def wr (ro : Option Nat) : Fence := { Fence.wide with round := ro }
theorem callsIn_wr {f : FuncId} {args : Array Value} {w : World} {R : Ending → World → Prop} (h : Calls P f args w R) : CallsIn (wr ro) n P f args w R := (callsIn_wide (n := n)).2 h
theorem rowsIn_wr {row : String} {args : Array Value} {w : World} {R : Value → World → Prop} (h : Rows P row args w R) : RowsIn (wr ro) n P row args w R := fun c cs _ =>
  let ⟨v, w', r, s⟩ := h c cs
  ⟨v, w', r, stepsIn_wide.2 s⟩
def noDefer (ops : List Oper) : Bool := ops.all fun o => match o.op with
  | .defer _ => false
  | _ => true
theorem noDefer_at {l : List Oper} (h : noDefer l = true) : ∀ o ∈ l, ∀ c, o.op ≠ .defer c := fun o ho c e => by
  have := List.all_eq_true.1 h o ho
  rw [e] at this
  cases this
theorem op_in {o : Oper} (hd : ∀ c, o.op ≠ .defer c) {a : Act} {w : World} {K : Act → World → Prop} (h : o.wp P a w K Q) : o.wpIn (wr ro) n P a w K Q := by
  unfold Oper.wp at h
  unfold Oper.wpIn
  refine ⟨fun _ _ => trivial, ?_⟩
  rw [Oper.semAt_eq _ _ _ hd]
  generalize (execOp a.eval o).run P w = r at *
  cases r with
  | ok x w' =>
    cases x <;> simp only [Oper.upon, Oper.uponIn] at h ⊢ <;>
      first
        | exact h
        | exact ⟨(fun e => by cases e), callsIn_wr (Calls.mono h (fun e w'' he => by cases e <;> exact he))⟩
        | exact ⟨(fun e => by cases e), rowsIn_wr h⟩
  | halt x w' => cases x <;> simp only [Oper.upon, Oper.uponIn] at h ⊢ <;> exact h
theorem list_in (hQ : ¬ LetsOut Q) : ∀ {l : List Oper} {a : Act} {w : World}, (∀ o ∈ l, ∀ c, o.op ≠ .defer c) → wpList P ops Q l a w → wpListIn (wr ro) n P ops Q l a w
  | [], _, _, _, h => h
  | o :: rest, a, w, hd, h => by
    unfold wpList at h
    unfold wpListIn
    split
    · rename_i hw
      rw [if_pos hw] at h
      rcases h with h | h
      · exact op_in (hd o List.mem_cons_self) (Oper.wp_mono (fun a w h => list_in hQ (fun o ho => hd o (List.mem_cons_of_mem _ ho)) h) h)
      · exact absurd h.2 hQ
    · rename_i hw
      rw [if_neg hw] at h
      exact ⟨fun _ _ => trivial, list_in hQ (fun o ho => hd o (List.mem_cons_of_mem _ ho)) h⟩
theorem any_in (hQ : ¬ LetsOut Q) (hd : ∀ o ∈ ops.toList, ∀ c, o.op ≠ .defer c) {md : Region.Mode} : ∀ (fuel : Nat) (listed : Array Bool) (a : Act) (w : World), wpAny P md ops Q fuel listed a w → wpAnyIn (wr ro) n P md ops Q fuel listed a w
  | 0, _, _, _, h => h
  | fuel + 1, listed, a, w, h => by
    refine ⟨h.1, fun i hi => ?_⟩
    have h := h.2 i hi
    unfold wpOp at h
    unfold wpOpIn
    cases ho : ops[i]? with
    | none =>
      rw [ho] at h
      exact any_in hQ hd fuel _ _ _ h
    | some o =>
      rw [ho] at h
      simp only at h ⊢
      have hm : o ∈ ops.toList := by
        have := Array.mem_of_getElem? ho
        simpa using this
      split
      · rename_i hw
        rw [if_pos hw] at h
        rcases h with h | h
        · exact op_in (hd o hm) (Oper.wp_mono (fun a w h => any_in hQ hd fuel _ a w h) h)
        · exact absurd h.2 hQ
      · rename_i hw
        rw [if_neg hw] at h
        exact ⟨fun _ _ => trivial, any_in hQ hd fuel _ _ _ h⟩
/-- The post of a row of operations. -/
def nrm (Q : Exit → Act → World → Prop) : Exit → Act → World → Prop := fun e a w => e = .normal ∧ Q .normal a w
theorem nrm_out : ¬ LetsOut (nrm Q) := fun ⟨_, _, h, _⟩ => by cases h
theorem region_list {id : Nat} {a : Act} {w : World} (hd : noDefer ops.toList = true) (h : wpList P ops (nrm Q) ops.toList a w) : (Code.region id ops false).wpIn (wr ro) n P Q a w :=
  Code.wpIn_mono (fun e a w hq => by obtain ⟨rfl, hq⟩ := hq; exact hq) (wpIn_region_list (list_in nrm_out (noDefer_at hd) h))
theorem region_any {id : Nat} {a : Act} {w : World} (hm : P.follows .mixedOrders = true) (hd : noDefer ops.toList = true) (h : wpAny P .any ops (nrm Q) ops.size (Array.replicate ops.size false) a { w with drawn := w.drawn + 1 }) : (Code.region id ops true).wpIn (wr ro) n P Q a w :=
  Code.wpIn_mono (fun e a w hq => by obtain ⟨rfl, hq⟩ := hq; exact hq) (wpIn_region_any hm (any_in nrm_out (noDefer_at hd) _ _ _ _ h))
theorem wpIn_loop_ghost {F : Fence} {a : Act} {w : World} {c : Code} (I : Nat → Act → World → Prop) (n₀ : Nat) (h₀ : I n₀ a w)
    (round : ∀ k a w, I k a w → c.wpIn F n P (Exit.then (fun a' w' => ∃ n', n' < k ∧ I n' a' w') Q) a w) : (Code.loop c).wpIn F n P Q a w := by
  refine wpIn_loop (fun a w => ∃ n, I n a w) (fun a w => leastOf (fun n => I n a w)) ⟨n₀, h₀⟩ ?_
  intro a w hI
  refine Code.wpIn_mono ?_ (round _ a w (leastOf_spec hI).1)
  intro e a' w' hq
  cases e with
  | normal =>
    obtain ⟨n', hlt, hI'⟩ := hq
    exact show (∃ n, I n a' w') ∧ leastOf (fun n => I n a' w') < leastOf (fun n => I n a w) from ⟨⟨n', hI'⟩, Nat.lt_of_le_of_lt ((leastOf_spec ⟨n', hI'⟩).2 n' hI') hlt⟩
  | exit id => exact hq
  | goto l => exact hq
  | ret => exact hq
  | panic ch => exact hq
  | outgrown => exact hq
end Go.Abs
