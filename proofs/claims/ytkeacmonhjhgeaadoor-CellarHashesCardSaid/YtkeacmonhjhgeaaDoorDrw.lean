/- cellar.draw, at the world. -/
import Derived.Test.YtkeacmonhjhgeaaDoorBack
namespace Go.Proofs.YtkeacmonhjhgeaaDoor.Back
open Go.RowKit Go.Shelf
set_option linter.unusedVariables false
set_option linter.unusedSimpArgs false
attribute [local go_sem] Oper.semAt_some
theorem Sv.set (x n o : Nat) (W : World) (v : Value) : Sv x n W (W.setCell ⟨x, o, none⟩ v) := ⟨rfl, rfl, rfl, by simp [World.setCell], fun B _ h => by
  simp only [World.setCell]
  rw [Array.getElem?_modify, if_neg (fun e => h e.symm)]⟩
/-- A number of bytes, the last one first. -/
def foldD (ys : List (Int × Int)) : Int := ys.foldl (fun a y => bits .or .i64 (IntKind.i64.wrap (a * 256)) (IntKind.i64.wrap y.2)) 0
theorem foldD_snoc (ys : List (Int × Int)) (y : Int × Int) : foldD (ys ++ [y]) = bits .or .i64 (IntKind.i64.wrap (foldD ys * 256)) (IntKind.i64.wrap y.2) := by simp [foldD]
set_option maxRecDepth 100000 in
set_option maxHeartbeats 4000000 in
theorem draw_w (b off len cap : Nat) (w : World) (zs : List Int) (hz : zs.length = 8) (hl : 8 ≤ len) (hc : len ≤ cap) (hb : b < w.heap.size) (hcs : ∀ j, j < 8 → w.cell? ⟨b, off + j, none⟩ = some (.int .u8 (zs[j]?.getD 0))) :
    Calls Tryd.prog 27 #[.slice (some ⟨b, off, none⟩) len cap] w fun e W => e = .returned (.int .i64 (bits .andNot .i64 (foldD (upto (back zs 8) 8)) (-9223372036854775808))) ∧ Sv w.heap.size w.heap.size w W := by
  refine (callsIn_wide (n := 3)).1 ?_
  have h1 : 1 ≤ 3 := by decide
  refine callsIn_of_wp_marks Tryd.func27 rfl trivial ?_ rfl
  simp only [Tryd.ntmps27, List.size_toArray, List.length_cons, List.length_nil, Nat.reduceAdd, Nat.reduceSub, Array.replicate_succ, Array.replicate_zero, List.push_toArray, List.append_toArray, List.nil_append, List.cons_append]
  gi_wp2_with (refine ⟨trivial, ?_⟩; gi_at_call 33; refine (back_in Fence.wide _ trivial rfl _ _ _ _).mono ?_; rintro e w'' ⟨rfl, rfl⟩)
  obtain ⟨w', hw'⟩ : ∃ w', w.alloc (.cells #[.int .i64 0] 3) = w' := ⟨_, rfl⟩
  have hs1 : w'.heap.size = w.heap.size + 1 := by rw [← hw']; simp
  have hb1 : Below w.heap.size w w' := by rw [← hw']; exact (Below.refl _ w).alloc (Nat.le_refl _) _
  have hn1 : w'.heap[w.heap.size]? = some (.cells #[.int .i64 0] 3 (0, 0)) := by rw [← hw', World.alloc_heap_new]
  have hcw1 : ∀ j, j < 8 → w'.cell? ⟨b, off + j, none⟩ = some (.int .u8 (zs[j]?.getD 0)) := fun j hj => (hb1.cell (p := ⟨b, off + j, none⟩) hb).trans (hcs j hj)
  rw [hw', show w.heap.size + 1 = w'.heap.size from hs1.symm]
  obtain ⟨W0, hW0⟩ : ∃ W0, w'.alloc (.cells #[.slice (some ⟨b, off, none⟩) 8 cap] 22) = W0 := ⟨_, rfl⟩
  have hs0 : W0.heap.size = w'.heap.size + 1 := by rw [← hW0]; simp
  have hb0 : Below w'.heap.size w' W0 := by rw [← hW0]; exact (Below.refl _ w').alloc (Nat.le_refl _) _
  have hcB : W0.cell? ⟨w'.heap.size, 0, none⟩ = some (.slice (some ⟨b, off, none⟩) 8 cap) := by rw [← hW0]; simp only [World.cell?]; rw [World.alloc_heap_new]; rfl
  have hn0 : W0.cell? ⟨w.heap.size, 0, none⟩ = some (.int .i64 0) := by
    rw [hb0.cell (p := ⟨w.heap.size, 0, none⟩) (by show w.heap.size < w'.heap.size; omega)]
    simp [World.cell?, hn1]
  have hf0 : W0.frozen? ⟨w.heap.size, 0, none⟩ = false := by
    rw [World.frozen?_of_block (hb0.block _ (show w.heap.size < w'.heap.size by omega))]
    simp [World.frozen?, hn1]
  have hB0 : Bytes w.heap.size W0.heap.size W0 (.slice (some ⟨b, off, none⟩) 8 cap) zs :=
    .inr ⟨b, off, cap, by rw [hz], by omega, by omega, fun j hj => (hb0.cell (p := ⟨b, off + j, none⟩) (show b < w'.heap.size by omega)).trans (hcw1 j (by omega))⟩
  have hsv0 : Sv w.heap.size w.heap.size w W0 := (Sv.of_below hb1).trans ⟨hb0.os, hb0.tape, hb0.output, hb0.size, fun B h _ => hb0.block B (by omega)⟩
  rw [hW0]
  clear hW0
  have hbs := back_stops Fence.wide (3 - 1) trivial rfl (by decide) w'.heap.size w.heap.size (.slice (some ⟨b, off, none⟩) 8 cap) zs (by omega) W0 (by omega) (by omega) hcB hB0
  rw [hz] at hbs
  refine wpIn_rangeFunc_ownF (F := Fence.wide) rfl h1 (gf := 39) (lb := #[.pointer (some ⟨w'.heap.size, 0, none⟩)]) rfl trivial (enters_of Tryd.func39 (by kernel_rfl) rfl)
    hbs (fun h k => h.trans k)
    (fun V l o o' hl ho hoc _ => Sv.of_below (belowK_b (Nat.le_refl _) V l o o' hl ho hoc (by cases o <;> simp_all [Obj.isWalk, Obj.isCells])) ) (Below.refl _ _) (fun _ => rfl)
    (fun pre V => V.cell? ⟨w.heap.size, 0, none⟩ = some (.int .i64 (foldD pre)) ∧ V.frozen? ⟨w.heap.size, 0, none⟩ = false ∧ Sv w.heap.size W0.heap.size W0 V)
    (fun _ _ _ => False)
    (fun s V V' row hs hg hr => ⟨cell_kept hs.1 hg (fun r e => (hr r e).2), (frozen_kept hs.1 hg (fun r e => (hr r e).2)).trans hs.2.1, hs.2.2.trans (Sv.of_below ((Below.refl _ V).grown hg hs.2.2.size (fun k e => (hr k e).1)))⟩)
    (fun _ _ _ _ _ hs _ _ => hs)
    ⟨hn0, hf0, Sv.refl _ _ _⟩
    (fun y => { tmps := #[.slice (some ⟨b, off, none⟩) len cap, undef, .int .i64 0, .pointer (some ⟨w.heap.size, 0, none⟩), undef, .int .u8 y.2, .slice (some ⟨b, off, none⟩) len cap, .slice (some ⟨b, off, none⟩) 8 cap, .func (.func 39) #[] #[.pointer (some ⟨w'.heap.size, 0, none⟩)], .int .i64 y.1, .int .u8 y.2, undef, undef, undef, undef, undef, undef, undef], defers := [] }) ?assign ?body ?done ?stop
  case assign =>
    intro l y V K hK
    gi_wp2
    rw [hs1] at hK
    exact hK
  case body =>
    rintro l pre y V ⟨hc', hfz, hsv⟩ _
    gi_wp2
    have hcs' : (V.setCell ⟨w.heap.size, 0, none⟩ (.int .i64 (foldD (pre ++ [y])))).cell? ⟨w.heap.size, 0, none⟩ = some (.int .i64 (foldD (pre ++ [y]))) := World.cell?_setCell_same' _ _ _ (by rw [hc']; rfl)
    rw [foldD_snoc] at hcs'
    exact ⟨KeepsOthers.setCell _ _ _, Sv.set _ _ _ _ _, by rw [foldD_snoc]; simp only [IntKind.wrap_i64, wrap64] at hcs' ⊢; exact hcs', by rw [World.frozen?_setCell]; exact hfz, hsv.trans (Sv.set _ _ _ _ _)⟩
  case done =>
    rintro D ys V hD rfl ⟨hc', hfz, hsv⟩ hK
    gi_wp2
    refine ⟨by simp, .inl ⟨_, _, rfl, run_takeDeferred hK, ?_⟩⟩
    refine ⟨_, results_tmp rfl _ _ _, rfl, ?_⟩
    have k1 : Sv w.heap.size w.heap.size w V := hsv0.trans ⟨hsv.os, hsv.tape, hsv.output, hsv.size, fun B h1 h2 => hsv.same B (by omega) h2⟩
    exact k1.trans (Sv.of_below (belowK_b (w := W0) (by omega) V D _ _ hD hK rfl rfl))
  case stop =>
    rintro D c pre V _ _ h _
    exact h.elim
end Go.Proofs.YtkeacmonhjhgeaaDoor.Back
