/- (*taker).number: what it comes to, over what take comes to. -/
import Derived.Test.YtldfdofeecmhoaaDoorBack
namespace Go.Proofs.YtldfdofeecmhoaaDoor.Back
open Go.RowKit Go.Shelf
set_option linter.unusedVariables false
set_option linter.unusedSimpArgs false
attribute [local go_sem] Oper.semAt_some
theorem Sv.set (x n o : Nat) (W : World) (v : Value) : Sv x n W (W.setCell ⟨x, o, none⟩ v) := ⟨rfl, rfl, rfl, by simp [World.setCell], fun B _ h => by
  simp only [World.setCell]
  rw [Array.getElem?_modify, if_neg (fun e => h e.symm)]⟩
theorem Sv.both {x n : Nat} {W W' : World} (h : Sv x n W W') (p : Addr) (v : Value) : Sv x n (W.setCell p v) (W'.setCell p v) := ⟨h.os, h.tape, h.output, by simp [World.setCell]; exact h.size, fun B h1 h2 => by
  simp only [World.setCell]
  rw [Array.getElem?_modify, Array.getElem?_modify, h.same B h1 h2]⟩
/-- A number of bytes, the last one first. -/
def fold (ys : List (Int × Int)) : Int := ys.foldl (fun a y => bits .or .u64 (IntKind.u64.wrap (a * 256)) (IntKind.u64.wrap y.2)) 0
theorem fold_snoc (ys : List (Int × Int)) (y : Int × Int) : fold (ys ++ [y]) = bits .or .u64 (IntKind.u64.wrap (fold ys * 256)) (IntKind.u64.wrap y.2) := by simp [fold]
set_option maxRecDepth 100000 in
set_option maxHeartbeats 4000000 in
theorem number_w (T : Nat) (w : World) (zs : List Int) (hz : zs.length ≤ 1000000) (R : Value → World → Prop)
    (hT : Calls Tryd.prog 25 #[.pointer (some ⟨T, 0, none⟩), .int .i64 8] (w.alloc (.cells #[.int .u64 0] 63)) fun e w' => ∃ u, e = .returned u ∧ R u w')
    (hR : ∀ u w', R u w' → Bytes w.heap.size w'.heap.size w' u zs ∧ w.heap.size < w'.heap.size ∧ w'.cell? ⟨w.heap.size, 0, none⟩ = some (.int .u64 0) ∧ w'.frozen? ⟨w.heap.size, 0, none⟩ = false ∧ T ≠ w.heap.size ∧ T < w'.heap.size ∧ (∃ v, w'.cell? ⟨T, 1, none⟩ = some v) ∧ w'.frozen? ⟨T, 1, none⟩ = false ∧ ∃ A n c, u = .slice A n c) :
    Calls Tryd.prog 24 #[.pointer (some ⟨T, 0, none⟩)] w fun e W => ∃ u w', R u w' ∧
      ((fold (upto (back zs zs.length) zs.length) > 2147483647 ∧ e = .returned (.int .i64 0) ∧ Sv w.heap.size w'.heap.size (w'.setCell ⟨T, 1, none⟩ (.bool true)) W) ∨
       (fold (upto (back zs zs.length) zs.length) ≤ 2147483647 ∧ e = .returned (.int .i64 (IntKind.i64.wrap (fold (upto (back zs zs.length) zs.length)))) ∧ Sv w.heap.size w'.heap.size w' W)) := by
  refine (callsIn_wide (n := 3)).1 ?_
  have h1 : 1 ≤ 3 := by decide
  refine callsIn_of_wp_marks Tryd.func24 rfl trivial ?_ rfl
  simp only [Tryd.ntmps24, List.size_toArray, List.length_cons, List.length_nil, Nat.reduceAdd, Nat.reduceSub, Array.replicate_succ, Array.replicate_zero, List.push_toArray, List.append_toArray, List.nil_append, List.cons_append]
  gi_wp2_with (refine ⟨trivial, ?_⟩; gi_at_call 25; refine (callsIn_wide.2 hT).mono ?_; rintro e w' ⟨u, rfl, hr⟩; obtain ⟨hB, hlt, hn, hf, hTn, hTl, ⟨vT, hTc⟩, hTf, A, nn, cc, rfl⟩ := hR u w' hr)
  gi_wp2_with (refine ⟨trivial, ?_⟩; gi_at_call 32; refine (back_in Fence.wide _ trivial rfl _ _ _ _).mono ?_; rintro e w'' ⟨rfl, rfl⟩)
  obtain ⟨W0, hW0⟩ : ∃ W0, w'.alloc (.cells #[.slice A nn cc] 22) = W0 := ⟨_, rfl⟩
  have hs0 : W0.heap.size = w'.heap.size + 1 := by rw [← hW0]; simp
  have hb0 : Below w'.heap.size w' W0 := by rw [← hW0]; exact (Below.refl _ w').alloc (Nat.le_refl _) _
  have hcB : W0.cell? ⟨w'.heap.size, 0, none⟩ = some (.slice A nn cc) := by rw [← hW0]; simp only [World.cell?]; rw [World.alloc_heap_new]; rfl
  have hn0 : W0.cell? ⟨w.heap.size, 0, none⟩ = some (.int .u64 0) := (hb0.cell (p := ⟨w.heap.size, 0, none⟩) hlt).trans hn
  have hf0 : W0.frozen? ⟨w.heap.size, 0, none⟩ = false := (World.frozen?_of_block (hb0.block _ hlt)).trans hf
  have hB0 : Bytes w.heap.size W0.heap.size W0 (.slice A nn cc) zs := by
    rcases hB with ⟨A', cap, e, hz'⟩ | ⟨b, off, cap, e, hb, hx, hc⟩
    · exact .inl ⟨A', cap, e, hz'⟩
    · exact .inr ⟨b, off, cap, e, by omega, hx, fun j hj => (hb0.cell (p := ⟨b, off + j, none⟩) hb).trans (hc j hj)⟩
  rw [hW0]
  clear hW0
  refine wpIn_rangeFunc_ownF (F := Fence.wide) rfl h1 (gf := 39) (lb := #[.pointer (some ⟨w'.heap.size, 0, none⟩)]) rfl trivial (enters_of Tryd.func39 (by kernel_rfl) rfl)
    (back_stops Fence.wide (3 - 1) trivial rfl (by decide) w'.heap.size w.heap.size (.slice A nn cc) zs hz W0 (by omega) (by omega) hcB hB0) (fun h k => h.trans k)
    (fun V l o o' hl ho hoc _ => Sv.of_below (belowK_b (Nat.le_refl _) V l o o' hl ho hoc (by cases o <;> simp_all [Obj.isWalk, Obj.isCells])) ) (Below.refl _ _) (fun _ => rfl)
    (fun pre V => V.cell? ⟨w.heap.size, 0, none⟩ = some (.int .u64 (fold pre)) ∧ V.frozen? ⟨w.heap.size, 0, none⟩ = false ∧ Sv w.heap.size W0.heap.size W0 V)
    (fun _ _ _ => False)
    (fun s V V' row hs hg hr => ⟨cell_kept hs.1 hg (fun r e => (hr r e).2), (frozen_kept hs.1 hg (fun r e => (hr r e).2)).trans hs.2.1, hs.2.2.trans (Sv.of_below ((Below.refl _ V).grown hg hs.2.2.size (fun k e => (hr k e).1)))⟩)
    (fun _ _ _ _ _ hs _ _ => hs)
    ⟨hn0, hf0, Sv.refl _ _ _⟩
    (fun y => { tmps := #[.pointer (some ⟨T, 0, none⟩), undef, .int .i64 0, .pointer (some ⟨w.heap.size, 0, none⟩), undef, .int .u8 y.2, .pointer (some ⟨T, 0, none⟩), .slice A nn cc, .func (.func 39) #[] #[.pointer (some ⟨w'.heap.size, 0, none⟩)], .int .i64 y.1, .int .u8 y.2, undef, undef, undef, undef, undef, undef, undef, undef, undef, undef, undef, undef], defers := [] }) ?assign ?body ?done ?stop
  case assign =>
    intro l y V K hK
    gi_wp2
    exact hK
  case body =>
    rintro l pre y V ⟨hc, hfz, hsv⟩ _
    gi_wp2
    have hcs : (V.setCell ⟨w.heap.size, 0, none⟩ (.int .u64 (fold (pre ++ [y])))).cell? ⟨w.heap.size, 0, none⟩ = some (.int .u64 (fold (pre ++ [y]))) := World.cell?_setCell_same' _ _ _ (by rw [hc]; rfl)
    rw [fold_snoc] at hcs
    exact ⟨KeepsOthers.setCell _ _ _, Sv.set _ _ _ _ _, by rw [fold_snoc]; exact hcs, by rw [World.frozen?_setCell]; exact hfz, hsv.trans (Sv.set _ _ _ _ _)⟩
  case done =>
    rintro D ys V hD rfl ⟨hc, hfz, hsv⟩ hK
    have hTc0 : W0.cell? ⟨T, 1, none⟩ = some vT := (hb0.cell (p := ⟨T, 1, none⟩) hTl).trans hTc
    have hTf0 : W0.frozen? ⟨T, 1, none⟩ = false := (World.frozen?_of_block (hb0.block _ hTl)).trans hTf
    have hTcV : V.cell? ⟨T, 1, none⟩ = some vT := (hsv.cell (by omega) hTn).trans hTc0
    have hTfV : V.frozen? ⟨T, 1, none⟩ = false := (World.frozen?_of_block (hsv.same T (by omega) hTn)).trans hTf0
    by_cases hbig : 2147483647 < fold (upto (back zs zs.length) zs.length)
    · gi_wp2
      refine ⟨by simp, .inl ⟨_, _, rfl, run_takeDeferred ((KeepsOthers.setCell V ⟨T, 1, none⟩ (.bool true)).same D _ hK rfl), ?_⟩⟩
      refine ⟨_, results_tmp rfl _ _ _, _, w', hr, .inl ⟨hbig, rfl, ?_⟩⟩
      have k1 : Sv w.heap.size w'.heap.size w' V := (Sv.of_below hb0).trans ⟨hsv.os, hsv.tape, hsv.output, hsv.size, fun B h1 h2 => hsv.same B (by omega) h2⟩
      refine (k1.both ⟨T, 1, none⟩ (.bool true)).trans (Sv.of_below (belowK_b (w := W0) (by omega) _ D _ _ hD ((KeepsOthers.setCell V ⟨T, 1, none⟩ (.bool true)).same D _ hK rfl) rfl rfl))
    · gi_wp2
      refine ⟨by simp, .inl ⟨_, _, rfl, run_takeDeferred hK, ?_⟩⟩
      refine ⟨_, results_tmp rfl _ _ _, _, w', hr, .inr ⟨?_, ?_⟩⟩
      · simp only [IntKind.wrap_i64, wrap64]
        rfl
      have k1 : Sv w.heap.size w'.heap.size w' V := (Sv.of_below hb0).trans ⟨hsv.os, hsv.tape, hsv.output, hsv.size, fun B h1 h2 => hsv.same B (by omega) h2⟩
      exact k1.trans (Sv.of_below (belowK_b (w := W0) (by omega) V D _ _ hD hK rfl rfl))
  case stop =>
    rintro D c pre V _ _ h _
    exact h.elim
end Go.Proofs.YtldfdofeecmhoaaDoor.Back
