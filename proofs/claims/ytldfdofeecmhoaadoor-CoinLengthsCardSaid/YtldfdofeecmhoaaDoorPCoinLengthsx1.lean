-- Written by wip/xprint.py, a patched run of the kit's print, for this claim. Lean checks it.
import Derived.Test.YtldfdofeecmhoaaDoorPCoinLengthsx0
namespace Go.Proofs.YtldfdofeecmhoaaDoor.PCoinLengths
open Go.RowKit Go.Proofs.YtldfdofeecmhoaaDoorW.PrintWords Go.Proofs.YtldfdofeecmhoaaDoorW.PrintLast Go.Proofs.YtldfdofeecmhoaaDoorW.PrintMore
attribute [local go_sem] max2_int min2_int max_two min_two max_three min_three max_four min_four   -- for this text's walks alone
set_option linter.unusedVariables false
set_option linter.unusedSimpArgs false

/-! ### escutcheonlaw01_awake: function 10 -/
def escutcheonlaw01_awake.f  : Option (Bool) := (Ext.coin_Text.f (([251, 255] : List Int))).bind fun t104 => (some (t104.toList == ([45, 95, 56] : List UInt8)))
set_option maxHeartbeats 8000000 in
set_option maxRecDepth 100000 in
theorem escutcheonlaw01_awake.calls  (r : Bool) (w : World) (hG : Ext.GL w) (h : escutcheonlaw01_awake.f  = some r) :
    Calls Tryd.prog 10 #[] w fun e w' => e = .returned (.bool r) ∧ Below w.heap.size w w' := by
  have HG := Aside0.mk hG
  clear hG
  have HB := Aside0.mk (Below.refl w.heap.size w)
  have H : ((Ext.coin_Text.f (([251, 255] : List Int))).bind fun t104 => (some (t104.toList == ([45, 95, 56] : List UInt8)))) = some r := h
  clear h
  obtain ⟨y101, hy101⟩ : ∃ y_ : List Int, y_ = (([251, 255] : List Int)) := ⟨_, rfl⟩
  replace H : ((Ext.coin_Text.f y101).bind fun t104 => (some (t104.toList == ([45, 95, 56] : List UInt8)))) = some r := by first | (rw [hy101]; with_reducible exact H) | (have H2_ := (Option.bind_some _ _).symm.trans H; rw [hy101]; with_reducible exact H2_) | (have H2_ := (Option.bind_some _ _).symm.trans H; with_reducible exact H2_) | with_reducible exact H | (rw [hy101]; exact H) | exact H
  have Ny101 := Aside0.mk hy101
  clear hy101
  replace H := Option.bind_eq_some_iff.mp H
  obtain ⟨t104, A10, H⟩ := H
  replace H : (some (t104.toList == ([45, 95, 56] : List UInt8))) = some r := H
  have A1 := Aside0.mk A10
  clear A10
  obtain rfl := Option.some.inj H
  go_enter Tryd.func10, Tryd.ntmps10
  go_wp2_with (first | ((with_reducible refine gate_dst (N := 1) rfl ?_); refine Kd.R_lit (Kd.int .u8) _ 5 ?hg (N := 1) ?hd (xs := ([251, 255] : List Int)) (inner := [.int .u8 251, .int .u8 255]) (ok := fun _ => True) (okp := fun _ => True) ?hr ?hp (fun _ hk => hk) trivial (Below.refl _ _) (Nat.le_refl _) (by simp) ?_; (case hd => rfl); (case hg => rfl); (case hr => first | (go_simp; done) | (go_simp; rfl)); (case hp => exact (Reps.one (show Kd.M (Kd.int .u8) _ _ _ 251 [.int .u8 251] from rfl) (Reps.one (show Kd.M (Kd.int .u8) _ _ _ 255 [.int .u8 255] from rfl) (Reps.none _ _)))); intro v102 w2 ho3 hb hg_ hnew_; clear hg_ hnew_; (first | rw [← Ny101.out] at ho3 | (simp only [Int.reduceToNat] at ho3; rw [← Ny101.out] at ho3)); have n0_ := Aside0.mk (Kd.R_lower ho3 (below_size (by repeat (first | (with_reducible first | exact HB.out | apply below_alloc | apply pw_below_drewN | apply below_drew1) | exact HB.out)))); have n1_ := Aside0.mk (below_step (by repeat (first | (with_reducible first | exact HB.out | apply below_alloc | apply pw_below_drewN | apply below_drew1) | exact HB.out)) hb); clear HB; have HO103 := n0_; have HB := n1_; clear n0_ n1_; clear hb ho3; obtain ⟨Ao4, co4, eo4⟩ := Kd.R_slice HO103.out; subst eo4) | ((with_reducible refine gate_callee (f := 11) rfl ?_); refine goesL_ (some 2) rfl rfl Tryd.func11 (by kernel_rfl) rfl #[.slice Ao4 y101.length co4] rfl (by (try simp only [List.map_toArray, List.map_cons, List.map_nil]); first | done | rfl | (simp only [List.length_drop, List.length_take]; rfl)) ?_; (with_reducible refine (Ext.coin_Text.calls _ _ y101 t104 _ ?side3 ?side1 ?side2 A1.out).mono ?_); (case side1 => repeat (first | exact (Kd.R_reads' HO103.out).2.2 | (with_reducible refine Kd.C_alloc ?_ _) | (with_reducible refine Kd.C_drewN ?_ _) | (with_reducible refine Kd.C_drew ?_))); (case side2 => exact (Kd.R_reads' HO103.out).2.1); (case side3 => first | (with_reducible exact HG.out) | (with_reducible exact Ext.GL.drewN HG.out _) | exact Ext.GL.below HG.out (by repeat (first | (with_reducible first | exact HB.out | apply below_alloc | apply pw_below_drewN | apply below_drew1) | exact HB.out))); rintro e w5 ⟨rfl, hb⟩; refine ⟨_, rfl, ?_⟩; have n0_ := Aside0.mk (Kd.R_below (by (with_reducible repeat (first | apply Kd.R_alloc | apply Kd.R_drewN | apply Kd.R_drew)); exact HO103.out) hb); have n1_ := Aside0.mk (below_step (by repeat (first | (with_reducible first | exact HB.out | apply below_alloc | apply pw_below_drewN | apply below_drew1) | exact HB.out)) hb); clear HO103; clear HB; have HO103 := n0_; have HB := n1_; clear n0_ n1_; (try clear hb); (try clear hb2); (try clear hk); (try clear hi)))
  go_ret
  exact ⟨by first | rfl | (simp [errW_none, errW_some] <;> rfl) | (simp [*, errW_none, errW_some] <;> rfl), by repeat (first | (with_reducible first | exact HB.out | apply below_alloc | apply pw_below_drewN | apply below_drew1) | exact HB.out)⟩

/-! ### escutcheonlaw01_CoinLengths: function 3 -/
def escutcheonlaw01_CoinLengths.j0 : Nat → List Int → List Int → Bool → Option (Bool)
  | 0, _, _, _ => none
  | k + 1, x0, x1, x19 => if x19 = true then ((escutcheonlaw01_awake.f).bind fun t106 => (some t106)) else (if 0 ≤ (wrap64 ((wrap64 ((x0.length : Int) / 3)) * 3)) then (if (wrap64 ((wrap64 ((x0.length : Int) / 3)) * 3)) ≤ (x0.length : Int) then ((some (x0.take ((wrap64 ((wrap64 ((x0.length : Int) / 3)) * 3)) : Int).toNat : List Int)).bind fun y107 => ((Ext.coin_Text.f y107).bind fun t111 => ((Ext.coin_Text.f x1).bind fun t112 => (if ((x1.length : Int) % 3) > 0 then (if (t111.size : Int) = (wrap64 ((wrap64 ((y107.length : Int) / 3)) * 4)) then (if (t112.size : Int) = (wrap64 ((wrap64 ((wrap64 ((x1.length : Int) / 3)) * 4)) + (((x1.length : Int) % 3) + 1))) then ((some (([] : List Int) : List Int)).bind fun y113 => (if y113.length + y107.length < 140737488355328 then ((some (y113 ++ y107 : List Int)).bind fun y116 => (if y116.length + x1.length < 140737488355328 then ((Ext.coin_Text.f (y116 ++ x1)).bind fun t122 => (if t111.size + t112.size ≤ 9223372036854775807 then (some (t122.toList == (t111 ++ t112).toList)) else (none))) else (none))) else (none))) else (some false)) else (some false)) else (if (t111.size : Int) = (wrap64 ((wrap64 ((y107.length : Int) / 3)) * 4)) then (if (t112.size : Int) = (wrap64 ((wrap64 ((x1.length : Int) / 3)) * 4)) then ((some (([] : List Int) : List Int)).bind fun y123 => (if y123.length + y107.length < 140737488355328 then ((some (y123 ++ y107 : List Int)).bind fun y126 => (if y126.length + x1.length < 140737488355328 then ((Ext.coin_Text.f (y126 ++ x1)).bind fun t132 => (if t111.size + t112.size ≤ 9223372036854775807 then (some (t132.toList == (t111 ++ t112).toList)) else (none))) else (none))) else (none))) else (some false)) else (some false)))))) else (none)) else (none))
def escutcheonlaw01_CoinLengths.f (k : Nat) (l0 : List Int) (l1 : List Int) : Option (Bool) := (escutcheonlaw01_awake.f).bind fun t105 => (if t105 = true then (if (l0.length : Int) > 200 then (escutcheonlaw01_CoinLengths.j0 k l0 l1 true) else (escutcheonlaw01_CoinLengths.j0 k l0 l1 (decide ((l1.length : Int) > 200)))) else (escutcheonlaw01_CoinLengths.j0 k l0 l1 true))
theorem escutcheonlaw01_CoinLengths.mono_l : ∀ k, (∀ y0 y1 y2, LeO (escutcheonlaw01_CoinLengths.j0 k y0 y1 y2) (escutcheonlaw01_CoinLengths.j0 (k + 1) y0 y1 y2))
  | 0 => fun _ _ _ r h => by simp [escutcheonlaw01_CoinLengths.j0] at h
  | k + 1 => by
    have ih0 := escutcheonlaw01_CoinLengths.mono_l k
    · intro y0 y1 y2
      unfold escutcheonlaw01_CoinLengths.j0
      repeat' first
      | (with_reducible exact ih0 _ _ _)
      | (with_reducible exact LeO.refl _)
      | (with_reducible exact LeO.none _)
      | (with_reducible refine LeO.ite ?_ ?_)
      | (with_reducible refine LeO.bind ?_ (fun _ => ?_))
      | exact ih0 _ _ _
      | exact LeO.none _
      | refine LeO.ite ?_ ?_
      | refine LeO.bind ?_ (fun _ => ?_)
theorem escutcheonlaw01_CoinLengths.mono : ∀ a0 a1 k, LeO (escutcheonlaw01_CoinLengths.f k a0 a1) (escutcheonlaw01_CoinLengths.f (k + 1) a0 a1) := by
  intro a0 a1 k
  have ih0 := escutcheonlaw01_CoinLengths.mono_l k
  unfold escutcheonlaw01_CoinLengths.f
  repeat' first
      | (with_reducible exact ih0 _ _ _)
      | (with_reducible exact LeO.refl _)
      | (with_reducible exact LeO.none _)
      | (with_reducible refine LeO.ite ?_ ?_)
      | (with_reducible refine LeO.bind ?_ (fun _ => ?_))
      | exact ih0 _ _ _
      | exact LeO.none _
      | refine LeO.ite ?_ ?_
      | refine LeO.bind ?_ (fun _ => ?_)
set_option maxHeartbeats 8000000 in
set_option maxRecDepth 100000 in
theorem escutcheonlaw01_CoinLengths.calls (k : Nat) (A0 : Option Addr) (c0 : Nat) (l0 : List Int) (A1 : Option Addr) (c1 : Nat) (l1 : List Int) (r : Bool) (w : World) (hG : Ext.GL w) (hr0 : Kd.C (Kd.int .u8) w A0 l0.length l0) (hc0 : l0.length ≤ c0) (hr1 : Kd.C (Kd.int .u8) w A1 l1.length l1) (hc1 : l1.length ≤ c1) (h : escutcheonlaw01_CoinLengths.f k l0 l1 = some r) :
    Calls Tryd.prog 3 #[.slice A0 l0.length c0, .slice A1 l1.length c1] w fun e w' => e = .returned (.bool r) ∧ Below w.heap.size w w' := by
  have HG := Aside0.mk hG
  clear hG
  have HR0 := Aside0.mk hr0
  have HC0 := Aside0.mk hc0
  clear hr0 hc0
  have HR1 := Aside0.mk hr1
  have HC1 := Aside0.mk hc1
  clear hr1 hc1
  have HB := Aside0.mk (Below.refl w.heap.size w)
  have H : ((escutcheonlaw01_awake.f).bind fun t105 => (if t105 = true then (if (l0.length : Int) > 200 then (escutcheonlaw01_CoinLengths.j0 k l0 l1 true) else (escutcheonlaw01_CoinLengths.j0 k l0 l1 (decide ((l1.length : Int) > 200)))) else (escutcheonlaw01_CoinLengths.j0 k l0 l1 true))) = some r := h
  clear h
  have HC3 := Aside0.mk H
  clear H
  go_enter Tryd.func3, Tryd.ntmps3
  go_upto_region 1 with (fail)
  go_cut [19] (fun v19 wc => ∃ (kq : Nat) (x19_2 : Bool), v19 = .bool x19_2 ∧ Aside0 (escutcheonlaw01_CoinLengths.j0 kq l0 l1 x19_2 = some r) ∧ Aside0 (kq ≤ k) ∧ Aside0 (Below w.heap.size w wc))
  case first =>
    have H := HC3.out
    clear HC3
    replace H := Option.bind_eq_some_iff.mp H
    obtain ⟨t105, A40, H⟩ := H
    replace H : (if t105 = true then (if (l0.length : Int) > 200 then (escutcheonlaw01_CoinLengths.j0 k l0 l1 true) else (escutcheonlaw01_CoinLengths.j0 k l0 l1 (decide ((l1.length : Int) > 200)))) else (escutcheonlaw01_CoinLengths.j0 k l0 l1 true)) = some r := H
    have A4 := Aside0.mk A40
    clear A40
    by_cases c5 : t105 = true
    · subst c5
      have H1 : (if (l0.length : Int) > 200 then (escutcheonlaw01_CoinLengths.j0 k l0 l1 true) else (escutcheonlaw01_CoinLengths.j0 k l0 l1 (decide ((l1.length : Int) > 200)))) = some r := by rw [if_pos rfl] at H; exact H
      clear H
      have H := H1
      clear H1
      by_cases c6 : (l0.length : Int) > 200
      · rw [if_pos c6] at H
        have c6b0 : decide (200 < (l0.length : Int)) = true := decide_eq_true c6
        have c6b1 : decide (200 < l0.length) = true := decide_eq_true (by omega)
        clear c6
        (first | rw [c6b0] | (simp only [i64_w, i32_w]; rw [c6b0]) | skip)
        have H' := Aside0.mk H
        clear H
        go_wp2_with (first | ((with_reducible refine gate_callee (f := 10) rfl ?_); refine goesL_ (some 8) rfl rfl Tryd.func10 (by kernel_rfl) rfl #[] rfl (by (try simp only [List.map_toArray, List.map_cons, List.map_nil]); first | done | rfl | (simp only [List.length_drop, List.length_take]; rfl)) ?_; (with_reducible refine (escutcheonlaw01_awake.calls  true _ ?side1 A4.out).mono ?_); (case side1 => first | (with_reducible exact HG.out) | (with_reducible exact Ext.GL.drewN HG.out _) | exact Ext.GL.below HG.out (by repeat (first | (with_reducible first | exact HB.out | apply below_alloc | apply pw_below_drewN | apply below_drew1) | exact HB.out))); rintro e w7 ⟨rfl, hb⟩; refine ⟨_, rfl, ?_⟩; have n0_ := Aside0.mk (below_step (by repeat (first | (with_reducible first | exact HB.out | apply below_alloc | apply pw_below_drewN | apply below_drew1) | exact HB.out)) hb); clear HB; have HB := n0_; clear n0_; (try clear hb); (try clear hb2); (try clear hk); (try clear hi)))
        go_meet
        case rel => exact ⟨_, (true), (by first | rfl | (simp; done) | (simp [*]; done)), H', ⟨by first | omega | exact Nat.le_refl _⟩, ⟨by repeat (first | (with_reducible first | exact HB.out | apply below_alloc | apply pw_below_drewN | apply below_drew1) | exact HB.out)⟩⟩
      · rw [if_neg c6] at H
        have c6b0 : decide (200 < (l0.length : Int)) = false := decide_eq_false c6
        have c6b1 : decide (200 < l0.length) = false := decide_eq_false (by omega)
        clear c6
        (first | rw [c6b0] | (simp only [i64_w, i32_w]; rw [c6b0]) | skip)
        have H' := Aside0.mk H
        clear H
        go_wp2_with (first | ((with_reducible refine gate_callee (f := 10) rfl ?_); refine goesL_ (some 8) rfl rfl Tryd.func10 (by kernel_rfl) rfl #[] rfl (by (try simp only [List.map_toArray, List.map_cons, List.map_nil]); first | done | rfl | (simp only [List.length_drop, List.length_take]; rfl)) ?_; (with_reducible refine (escutcheonlaw01_awake.calls  true _ ?side1 A4.out).mono ?_); (case side1 => first | (with_reducible exact HG.out) | (with_reducible exact Ext.GL.drewN HG.out _) | exact Ext.GL.below HG.out (by repeat (first | (with_reducible first | exact HB.out | apply below_alloc | apply pw_below_drewN | apply below_drew1) | exact HB.out))); rintro e w8 ⟨rfl, hb⟩; refine ⟨_, rfl, ?_⟩; have n0_ := Aside0.mk (below_step (by repeat (first | (with_reducible first | exact HB.out | apply below_alloc | apply pw_below_drewN | apply below_drew1) | exact HB.out)) hb); clear HB; have HB := n0_; clear n0_; (try clear hb); (try clear hb2); (try clear hk); (try clear hi)))
        go_meet
        case rel => exact ⟨_, (decide ((l1.length : Int) > 200)), (by first | rfl | (simp; done) | (simp [*]; done)), H', ⟨by first | omega | exact Nat.le_refl _⟩, ⟨by repeat (first | (with_reducible first | exact HB.out | apply below_alloc | apply pw_below_drewN | apply below_drew1) | exact HB.out)⟩⟩
    · replace c5 := Bool.eq_false_iff.mpr c5
      subst c5
      have H1 : (escutcheonlaw01_CoinLengths.j0 k l0 l1 true) = some r := by rw [if_neg (show ¬ (false = true) by decide)] at H; exact H
      clear H
      have H := H1
      clear H1
      have H' := Aside0.mk H
      clear H
      go_wp2_with (first | ((with_reducible refine gate_callee (f := 10) rfl ?_); refine goesL_ (some 8) rfl rfl Tryd.func10 (by kernel_rfl) rfl #[] rfl (by (try simp only [List.map_toArray, List.map_cons, List.map_nil]); first | done | rfl | (simp only [List.length_drop, List.length_take]; rfl)) ?_; (with_reducible refine (escutcheonlaw01_awake.calls  false _ ?side1 A4.out).mono ?_); (case side1 => first | (with_reducible exact HG.out) | (with_reducible exact Ext.GL.drewN HG.out _) | exact Ext.GL.below HG.out (by repeat (first | (with_reducible first | exact HB.out | apply below_alloc | apply pw_below_drewN | apply below_drew1) | exact HB.out))); rintro e w9 ⟨rfl, hb⟩; refine ⟨_, rfl, ?_⟩; have n0_ := Aside0.mk (below_step (by repeat (first | (with_reducible first | exact HB.out | apply below_alloc | apply pw_below_drewN | apply below_drew1) | exact HB.out)) hb); clear HB; have HB := n0_; clear n0_; (try clear hb); (try clear hb2); (try clear hk); (try clear hi)))
      go_meet
      case rel => exact ⟨_, (true), (by first | rfl | (simp; done) | (simp [*]; done)), H', ⟨by first | omega | exact Nat.le_refl _⟩, ⟨by repeat (first | (with_reducible first | exact HB.out | apply below_alloc | apply pw_below_drewN | apply below_drew1) | exact HB.out)⟩⟩
  case rest =>
    clear HC3
    try clear c1
    try clear p2
    try clear c3
    try clear c5
    try clear c6
    try clear c6b0
    try clear c6b1
    obtain ⟨kq, x19_2, rfl, HA, HJ2, HB⟩ := hcut
    cases kq with
    | zero => exact absurd HA.out (by simp [escutcheonlaw01_CoinLengths.j0])
    | succ kj2 =>
      have H := HA.out
      clear HA
      simp only [escutcheonlaw01_CoinLengths.j0] at H
      by_cases c10 : x19_2 = true
      · subst c10
        have H1 : ((escutcheonlaw01_awake.f).bind fun t106 => (some t106)) = some r := by rw [if_pos rfl] at H; exact H
        clear H
        have H := H1
        clear H1
        replace H := Option.bind_eq_some_iff.mp H
        obtain ⟨t106, A110, H⟩ := H
        replace H : (some t106) = some r := H
        have A11 := Aside0.mk A110
        clear A110
        obtain rfl := Option.some.inj H
        go_wp2_with (first | ((with_reducible refine gate_callee (f := 10) rfl ?_); refine goesL_ (some 20) rfl rfl Tryd.func10 (by kernel_rfl) rfl #[] rfl (by (try simp only [List.map_toArray, List.map_cons, List.map_nil]); first | done | rfl | (simp only [List.length_drop, List.length_take]; rfl)) ?_; (with_reducible refine (escutcheonlaw01_awake.calls  t106 _ ?side1 A11.out).mono ?_); (case side1 => first | (with_reducible exact HG.out) | (with_reducible exact Ext.GL.drewN HG.out _) | exact Ext.GL.below HG.out (by repeat (first | (with_reducible first | exact HB.out | apply below_alloc | apply pw_below_drewN | apply below_drew1) | exact HB.out))); rintro e w12 ⟨rfl, hb⟩; refine ⟨_, rfl, ?_⟩; have n0_ := Aside0.mk (below_step (by repeat (first | (with_reducible first | exact HB.out | apply below_alloc | apply pw_below_drewN | apply below_drew1) | exact HB.out)) hb); clear HB; have HB := n0_; clear n0_; (try clear hb); (try clear hb2); (try clear hk); (try clear hi)))
        go_ret
        exact ⟨by first | rfl | (simp [errW_none, errW_some] <;> rfl) | (simp [*, errW_none, errW_some] <;> rfl), by repeat (first | (with_reducible first | exact HB.out | apply below_alloc | apply pw_below_drewN | apply below_drew1) | exact HB.out)⟩
      · replace c10 := Bool.eq_false_iff.mpr c10
        subst c10
        have H1 : (if 0 ≤ (wrap64 ((wrap64 ((l0.length : Int) / 3)) * 3)) then (if (wrap64 ((wrap64 ((l0.length : Int) / 3)) * 3)) ≤ (l0.length : Int) then ((some (l0.take ((wrap64 ((wrap64 ((l0.length : Int) / 3)) * 3)) : Int).toNat : List Int)).bind fun y107 => ((Ext.coin_Text.f y107).bind fun t111 => ((Ext.coin_Text.f l1).bind fun t112 => (if ((l1.length : Int) % 3) > 0 then (if (t111.size : Int) = (wrap64 ((wrap64 ((y107.length : Int) / 3)) * 4)) then (if (t112.size : Int) = (wrap64 ((wrap64 ((wrap64 ((l1.length : Int) / 3)) * 4)) + (((l1.length : Int) % 3) + 1))) then ((some (([] : List Int) : List Int)).bind fun y113 => (if y113.length + y107.length < 140737488355328 then ((some (y113 ++ y107 : List Int)).bind fun y116 => (if y116.length + l1.length < 140737488355328 then ((Ext.coin_Text.f (y116 ++ l1)).bind fun t122 => (if t111.size + t112.size ≤ 9223372036854775807 then (some (t122.toList == (t111 ++ t112).toList)) else (none))) else (none))) else (none))) else (some false)) else (some false)) else (if (t111.size : Int) = (wrap64 ((wrap64 ((y107.length : Int) / 3)) * 4)) then (if (t112.size : Int) = (wrap64 ((wrap64 ((l1.length : Int) / 3)) * 4)) then ((some (([] : List Int) : List Int)).bind fun y123 => (if y123.length + y107.length < 140737488355328 then ((some (y123 ++ y107 : List Int)).bind fun y126 => (if y126.length + l1.length < 140737488355328 then ((Ext.coin_Text.f (y126 ++ l1)).bind fun t132 => (if t111.size + t112.size ≤ 9223372036854775807 then (some (t132.toList == (t111 ++ t112).toList)) else (none))) else (none))) else (none))) else (some false)) else (some false)))))) else (none)) else (none)) = some r := by rw [if_neg (show ¬ (false = true) by decide)] at H; exact H
        clear H
        have H := H1
        clear H1
        obtain ⟨ji13, hji13⟩ : ∃ j_ : Int, (wrap64 ((wrap64 ((l0.length : Int) / 3)) * 3)) = j_ := ⟨_, rfl⟩
        replace H : (if 0 ≤ (ji13) then (if (ji13) ≤ (l0.length : Int) then ((some (l0.take ((ji13) : Int).toNat : List Int)).bind fun y107 => ((Ext.coin_Text.f y107).bind fun t111 => ((Ext.coin_Text.f l1).bind fun t112 => (if ((l1.length : Int) % 3) > 0 then (if (t111.size : Int) = (wrap64 ((wrap64 ((y107.length : Int) / 3)) * 4)) then (if (t112.size : Int) = (wrap64 ((wrap64 ((wrap64 ((l1.length : Int) / 3)) * 4)) + (((l1.length : Int) % 3) + 1))) then ((some (([] : List Int) : List Int)).bind fun y113 => (if y113.length + y107.length < 140737488355328 then ((some (y113 ++ y107 : List Int)).bind fun y116 => (if y116.length + l1.length < 140737488355328 then ((Ext.coin_Text.f (y116 ++ l1)).bind fun t122 => (if t111.size + t112.size ≤ 9223372036854775807 then (some (t122.toList == (t111 ++ t112).toList)) else (none))) else (none))) else (none))) else (some false)) else (some false)) else (if (t111.size : Int) = (wrap64 ((wrap64 ((y107.length : Int) / 3)) * 4)) then (if (t112.size : Int) = (wrap64 ((wrap64 ((l1.length : Int) / 3)) * 4)) then ((some (([] : List Int) : List Int)).bind fun y123 => (if y123.length + y107.length < 140737488355328 then ((some (y123 ++ y107 : List Int)).bind fun y126 => (if y126.length + l1.length < 140737488355328 then ((Ext.coin_Text.f (y126 ++ l1)).bind fun t132 => (if t111.size + t112.size ≤ 9223372036854775807 then (some (t132.toList == (t111 ++ t112).toList)) else (none))) else (none))) else (none))) else (some false)) else (some false)))))) else (none)) else (none)) = some r := by first | (rw [hji13] at H; exact H) | (simp only [hji13] at H ⊢; exact H)
        have hji13w : (IntKind.i64.wrap ((wrap64 ((l0.length : Int) / 3)) * 3)) = ji13 := (i64_w _).trans hji13
        by_cases c14 : 0 ≤ (ji13)
        · rw [if_pos c14] at H
          have c14b0 := eq_true c14
          have c14b1 : decide (0 ≤ (ji13)) = true := decide_eq_true c14
          clear c14
          by_cases c15 : (ji13) ≤ (l0.length : Int)
          · rw [if_pos c15] at H
            have c15b0 := eq_true c15
            have c15b1 : decide ((ji13) ≤ (l0.length : Int)) = true := decide_eq_true c15
            clear c15
            obtain ⟨y107, hy107⟩ : ∃ y_ : List Int, y_ = (l0.take ((ji13) : Int).toNat) := ⟨_, rfl⟩
            replace H : ((Ext.coin_Text.f y107).bind fun t111 => ((Ext.coin_Text.f l1).bind fun t112 => (if ((l1.length : Int) % 3) > 0 then (if (t111.size : Int) = (wrap64 ((wrap64 ((y107.length : Int) / 3)) * 4)) then (if (t112.size : Int) = (wrap64 ((wrap64 ((wrap64 ((l1.length : Int) / 3)) * 4)) + (((l1.length : Int) % 3) + 1))) then ((some (([] : List Int) : List Int)).bind fun y113 => (if y113.length + y107.length < 140737488355328 then ((some (y113 ++ y107 : List Int)).bind fun y116 => (if y116.length + l1.length < 140737488355328 then ((Ext.coin_Text.f (y116 ++ l1)).bind fun t122 => (if t111.size + t112.size ≤ 9223372036854775807 then (some (t122.toList == (t111 ++ t112).toList)) else (none))) else (none))) else (none))) else (some false)) else (some false)) else (if (t111.size : Int) = (wrap64 ((wrap64 ((y107.length : Int) / 3)) * 4)) then (if (t112.size : Int) = (wrap64 ((wrap64 ((l1.length : Int) / 3)) * 4)) then ((some (([] : List Int) : List Int)).bind fun y123 => (if y123.length + y107.length < 140737488355328 then ((some (y123 ++ y107 : List Int)).bind fun y126 => (if y126.length + l1.length < 140737488355328 then ((Ext.coin_Text.f (y126 ++ l1)).bind fun t132 => (if t111.size + t112.size ≤ 9223372036854775807 then (some (t132.toList == (t111 ++ t112).toList)) else (none))) else (none))) else (none))) else (some false)) else (some false))))) = some r := by first | (rw [hy107]; with_reducible exact H) | (have H2_ := (Option.bind_some _ _).symm.trans H; rw [hy107]; with_reducible exact H2_) | (have H2_ := (Option.bind_some _ _).symm.trans H; with_reducible exact H2_) | with_reducible exact H | (rw [hy107]; exact H) | exact H
            have Ny107 := Aside0.mk hy107
            clear hy107
            replace H := Option.bind_eq_some_iff.mp H
            obtain ⟨t111, A160, H⟩ := H
            replace H : ((Ext.coin_Text.f l1).bind fun t112 => (if ((l1.length : Int) % 3) > 0 then (if (t111.size : Int) = (wrap64 ((wrap64 ((y107.length : Int) / 3)) * 4)) then (if (t112.size : Int) = (wrap64 ((wrap64 ((wrap64 ((l1.length : Int) / 3)) * 4)) + (((l1.length : Int) % 3) + 1))) then ((some (([] : List Int) : List Int)).bind fun y113 => (if y113.length + y107.length < 140737488355328 then ((some (y113 ++ y107 : List Int)).bind fun y116 => (if y116.length + l1.length < 140737488355328 then ((Ext.coin_Text.f (y116 ++ l1)).bind fun t122 => (if t111.size + t112.size ≤ 9223372036854775807 then (some (t122.toList == (t111 ++ t112).toList)) else (none))) else (none))) else (none))) else (some false)) else (some false)) else (if (t111.size : Int) = (wrap64 ((wrap64 ((y107.length : Int) / 3)) * 4)) then (if (t112.size : Int) = (wrap64 ((wrap64 ((l1.length : Int) / 3)) * 4)) then ((some (([] : List Int) : List Int)).bind fun y123 => (if y123.length + y107.length < 140737488355328 then ((some (y123 ++ y107 : List Int)).bind fun y126 => (if y126.length + l1.length < 140737488355328 then ((Ext.coin_Text.f (y126 ++ l1)).bind fun t132 => (if t111.size + t112.size ≤ 9223372036854775807 then (some (t132.toList == (t111 ++ t112).toList)) else (none))) else (none))) else (none))) else (some false)) else (some false)))) = some r := H
            have A16 := Aside0.mk A160
            clear A160
            replace H := Option.bind_eq_some_iff.mp H
            obtain ⟨t112, A170, H⟩ := H
            replace H : (if ((l1.length : Int) % 3) > 0 then (if (t111.size : Int) = (wrap64 ((wrap64 ((y107.length : Int) / 3)) * 4)) then (if (t112.size : Int) = (wrap64 ((wrap64 ((wrap64 ((l1.length : Int) / 3)) * 4)) + (((l1.length : Int) % 3) + 1))) then ((some (([] : List Int) : List Int)).bind fun y113 => (if y113.length + y107.length < 140737488355328 then ((some (y113 ++ y107 : List Int)).bind fun y116 => (if y116.length + l1.length < 140737488355328 then ((Ext.coin_Text.f (y116 ++ l1)).bind fun t122 => (if t111.size + t112.size ≤ 9223372036854775807 then (some (t122.toList == (t111 ++ t112).toList)) else (none))) else (none))) else (none))) else (some false)) else (some false)) else (if (t111.size : Int) = (wrap64 ((wrap64 ((y107.length : Int) / 3)) * 4)) then (if (t112.size : Int) = (wrap64 ((wrap64 ((l1.length : Int) / 3)) * 4)) then ((some (([] : List Int) : List Int)).bind fun y123 => (if y123.length + y107.length < 140737488355328 then ((some (y123 ++ y107 : List Int)).bind fun y126 => (if y126.length + l1.length < 140737488355328 then ((Ext.coin_Text.f (y126 ++ l1)).bind fun t132 => (if t111.size + t112.size ≤ 9223372036854775807 then (some (t132.toList == (t111 ++ t112).toList)) else (none))) else (none))) else (none))) else (some false)) else (some false))) = some r := H
            have A17 := Aside0.mk A170
            clear A170
            by_cases c18 : ((l1.length : Int) % 3) > 0
            · rw [if_pos c18] at H
              have c18b0 : decide (0 < ((l1.length : Int) % 3)) = true := decide_eq_true c18
              clear c18
              by_cases c19 : (t111.size : Int) = (wrap64 ((wrap64 ((y107.length : Int) / 3)) * 4))
              · rw [if_pos c19] at H
                have c19b0 : ((t111.size : Int) == (wrap64 ((wrap64 ((y107.length : Int) / 3)) * 4))) = true := beq_iff_eq.mpr c19
                have c19b1 : ((t111.size : Int) != (wrap64 ((wrap64 ((y107.length : Int) / 3)) * 4))) = false := bne_eq_false_iff_eq.mpr c19
                clear c19
                by_cases c20 : (t112.size : Int) = (wrap64 ((wrap64 ((wrap64 ((l1.length : Int) / 3)) * 4)) + (((l1.length : Int) % 3) + 1)))
                · rw [if_pos c20] at H
                  have c20b0 : ((t112.size : Int) == (wrap64 ((wrap64 ((wrap64 ((l1.length : Int) / 3)) * 4)) + (((l1.length : Int) % 3) + 1)))) = true := beq_iff_eq.mpr c20
                  have c20b1 : ((t112.size : Int) != (wrap64 ((wrap64 ((wrap64 ((l1.length : Int) / 3)) * 4)) + (((l1.length : Int) % 3) + 1)))) = false := bne_eq_false_iff_eq.mpr c20
                  clear c20
                  obtain ⟨y113, hy113⟩ : ∃ y_ : List Int, y_ = (([] : List Int)) := ⟨_, rfl⟩
                  replace H : (if y113.length + y107.length < 140737488355328 then ((some (y113 ++ y107 : List Int)).bind fun y116 => (if y116.length + l1.length < 140737488355328 then ((Ext.coin_Text.f (y116 ++ l1)).bind fun t122 => (if t111.size + t112.size ≤ 9223372036854775807 then (some (t122.toList == (t111 ++ t112).toList)) else (none))) else (none))) else (none)) = some r := by first | (rw [hy113]; with_reducible exact H) | (have H2_ := (Option.bind_some _ _).symm.trans H; rw [hy113]; with_reducible exact H2_) | (have H2_ := (Option.bind_some _ _).symm.trans H; with_reducible exact H2_) | with_reducible exact H | (rw [hy113]; exact H) | exact H
                  have Ny113 := Aside0.mk hy113
                  clear hy113
                  by_cases c21 : y113.length + y107.length < 140737488355328
                  · rw [if_pos c21] at H
                    have LMc21 := Aside0.mk c21
                    clear c21
                    obtain ⟨y116, hy116⟩ : ∃ y_ : List Int, y_ = (y113 ++ y107) := ⟨_, rfl⟩
                    replace H : (if y116.length + l1.length < 140737488355328 then ((Ext.coin_Text.f (y116 ++ l1)).bind fun t122 => (if t111.size + t112.size ≤ 9223372036854775807 then (some (t122.toList == (t111 ++ t112).toList)) else (none))) else (none)) = some r := by first | (rw [hy116]; with_reducible exact H) | (have H2_ := (Option.bind_some _ _).symm.trans H; rw [hy116]; with_reducible exact H2_) | (have H2_ := (Option.bind_some _ _).symm.trans H; with_reducible exact H2_) | with_reducible exact H | (rw [hy116]; exact H) | exact H
                    have Ny116 := Aside0.mk hy116
                    clear hy116
                    by_cases c22 : y116.length + l1.length < 140737488355328
                    · rw [if_pos c22] at H
                      have LMc22 := Aside0.mk c22
                      clear c22
                      obtain ⟨y119, hy119⟩ : ∃ y_ : List Int, y_ = (y116 ++ l1) := ⟨_, rfl⟩
                      replace H : ((Ext.coin_Text.f y119).bind fun t122 => (if t111.size + t112.size ≤ 9223372036854775807 then (some (t122.toList == (t111 ++ t112).toList)) else (none))) = some r := by first | (rw [hy119]; with_reducible exact H) | (have H2_ := (Option.bind_some _ _).symm.trans H; rw [hy119]; with_reducible exact H2_) | (have H2_ := (Option.bind_some _ _).symm.trans H; with_reducible exact H2_) | with_reducible exact H | (rw [hy119]; exact H) | exact H
                      have Ny119 := Aside0.mk hy119
                      clear hy119
                      replace H := Option.bind_eq_some_iff.mp H
                      obtain ⟨t122, A230, H⟩ := H
                      replace H : (if t111.size + t112.size ≤ 9223372036854775807 then (some (t122.toList == (t111 ++ t112).toList)) else (none)) = some r := H
                      have A23 := Aside0.mk A230
                      clear A230
                      by_cases c24 : t111.size + t112.size ≤ 9223372036854775807
                      · rw [if_pos c24] at H
                        have c24b0 := eq_true c24
                        have c24b1 : decide (t111.size + t112.size ≤ 9223372036854775807) = true := decide_eq_true c24
                        try have c24b2 : (9223372036854775807 < t111.size + t112.size) = False := eq_false (Nat.not_lt.2 c24)
                        obtain rfl := Option.some.inj H
                        have q25 : ((ji13) : Int) ≤ ((l0.length : Int) : Int) := of_decide_eq_true (by first | (with_reducible assumption) | assumption)
                        obtain ⟨i025, hi025, _, hsz25, _⟩ := info_parts info5
                        have hroom25 : l0.length ≤ c0 := HC0.out
                        have hC25 : Kd.C (Kd.int .u8) _ A0 l0.length l0 := HR0.out
                        have hcut25 := cut_to (P := Tryd.prog) 22 5 .i64 Tryd.underlying22 hi025 A0 l0.length c0 (ji13) (of_decide_eq_true (by first | (with_reducible assumption) | assumption)) q25 hroom25
                        have hr25 := Kd.C_take (m := ((ji13) : Int).toNat) hC25 (by omega)
                        have hy25 : y107.length = ((ji13) : Int).toNat := (by rw [Ny107.out, List.length_take]; omega)
                        rw [← Ny107.out] at hr25
                        rw [← hy25] at hcut25
                        have HR110 := Aside0.mk hr25
                        have HC110 := Aside0.mk (show y107.length ≤ c0 from by omega)
                        clear hr25 hC25 hroom25 hi025 hsz25
                        have KY25 := Aside0.mk hy25
                        clear hy25
                        replace q25 := eq_true q25
                        go_wp2_with (first | ((with_reducible refine gate_callee (f := 11) rfl ?_); refine goesL_ (some 28) rfl rfl Tryd.func11 (by kernel_rfl) rfl #[.slice A0 y107.length c0] rfl (by (try simp only [List.map_toArray, List.map_cons, List.map_nil]); first | done | rfl | (simp only [List.length_drop, List.length_take]; rfl)) ?_; (with_reducible refine (Ext.coin_Text.calls _ _ y107 t111 _ ?side3 ?side1 ?side2 A16.out).mono ?_); (case side1 => repeat (first | exact (Kd.C_below HR110.out HB.out) | (with_reducible refine Kd.C_alloc ?_ _) | (with_reducible refine Kd.C_drewN ?_ _) | (with_reducible refine Kd.C_drew ?_))); (case side2 => exact HC110.out); (case side3 => first | (with_reducible exact HG.out) | (with_reducible exact Ext.GL.drewN HG.out _) | exact Ext.GL.below HG.out (by repeat (first | (with_reducible first | exact HB.out | apply below_alloc | apply pw_below_drewN | apply below_drew1) | exact HB.out))); rintro e w26 ⟨rfl, hb⟩; refine ⟨_, rfl, ?_⟩; have n0_ := Aside0.mk (below_step (by repeat (first | (with_reducible first | exact HB.out | apply below_alloc | apply pw_below_drewN | apply below_drew1) | exact HB.out)) hb); clear HB; have HB := n0_; clear n0_; (try clear hb); (try clear hb2); (try clear hk); (try clear hi)) | ((with_reducible refine gate_callee (f := 11) rfl ?_); refine goesL_ (some 30) rfl rfl Tryd.func11 (by kernel_rfl) rfl #[.slice A1 l1.length c1] rfl (by (try simp only [List.map_toArray, List.map_cons, List.map_nil]); first | done | rfl | (simp only [List.length_drop, List.length_take]; rfl)) ?_; (with_reducible refine (Ext.coin_Text.calls _ _ l1 t112 _ ?side3 ?side1 ?side2 A17.out).mono ?_); (case side1 => repeat (first | exact (Kd.C_below HR1.out HB.out) | (with_reducible refine Kd.C_alloc ?_ _) | (with_reducible refine Kd.C_drewN ?_ _) | (with_reducible refine Kd.C_drew ?_))); (case side2 => exact HC1.out); (case side3 => first | (with_reducible exact HG.out) | (with_reducible exact Ext.GL.drewN HG.out _) | exact Ext.GL.below HG.out (by repeat (first | (with_reducible first | exact HB.out | apply below_alloc | apply pw_below_drewN | apply below_drew1) | exact HB.out))); rintro e w27 ⟨rfl, hb⟩; refine ⟨_, rfl, ?_⟩; have n0_ := Aside0.mk (below_step (by repeat (first | (with_reducible first | exact HB.out | apply below_alloc | apply pw_below_drewN | apply below_drew1) | exact HB.out)) hb); clear HB; have HB := n0_; clear n0_; (try clear hb); (try clear hb2); (try clear hk); (try clear hi)) | ((with_reducible refine gate_dst (N := 59) rfl ?_); (try (refine gate_guard (by rfl) ?_; dsimp only)); refine Kd.R_lit (Kd.int .u8) _ 5 ?hg (N := 59) ?hd (xs := ([] : List Int)) (inner := []) (ok := fun _ => True) (okp := fun _ => True) ?hr ?hp (fun _ hk => hk) trivial (Below.refl _ _) (Nat.le_refl _) (by simp) ?_; (case hd => rfl); (case hg => rfl); (case hr => first | (go_simp; done) | (go_simp; rfl)); (case hp => exact (Reps.none _ _)); intro v114 w28 ho29 hb hg_ hnew_; clear hg_ hnew_; (first | rw [← Ny113.out] at ho29 | (simp only [Int.reduceToNat] at ho29; rw [← Ny113.out] at ho29)); have n0_ := Aside0.mk (Kd.R_lower ho29 (below_size (by repeat (first | (with_reducible first | exact HB.out | apply below_alloc | apply pw_below_drewN | apply below_drew1) | exact HB.out)))); have n1_ := Aside0.mk (below_step (by repeat (first | (with_reducible first | exact HB.out | apply below_alloc | apply pw_below_drewN | apply below_drew1) | exact HB.out)) hb); clear HB; have HO115 := n0_; have HB := n1_; clear n0_ n1_; clear hb ho29) | ((with_reducible refine gate_builtin (b := .append) (xs := #[.tmp 59, .tmp 60]) rfl ?_); (try (refine gate_guard (by rfl) ?_; dsimp only)); at_builtin; refine Kd.R_append_rows (Kd.int .u8) (w0 := w) w.heap.size rfl (.tmp 59) (.tmp 60) 22 5 (.int .u8 0) 1 rfl Tryd.underlying22 info5 rfl (by decide) (by omega) v114 y113 y107 _ _ _ (fun _ => True) (fun _ => False) rfl rfl ?aO ?aR (fun _ _ h => h) (fun _ h => h.elim) ?aF ?aB ?aS ?aL ?_; (case aR => repeat (first | exact (Kd.C_below HR110.out HB.out) | (with_reducible refine Kd.C_alloc ?_ _) | (with_reducible refine Kd.C_drewN ?_ _) | (with_reducible refine Kd.C_drew ?_))); (case aB => exact (by repeat (first | (with_reducible first | exact HB.out | apply below_alloc | apply pw_below_drewN | apply below_drew1) | exact HB.out))); (case aF => exact (fun _ _ => trivial)); (case aO => exact (by (with_reducible repeat (first | apply Kd.R_alloc | apply Kd.R_drewN | apply Kd.R_drew)); exact HO115.out)); (case aS => exact (below_size (by repeat (first | (with_reducible first | exact HB.out | apply below_alloc | apply pw_below_drewN | apply below_drew1) | exact HB.out)))); (case aL => have := LMc21.out; omega); intro v117 w30 ho hb hg hat; rw [← Ny116.out] at ho; have n0_ := Aside0.mk (hb); have n1_ := Aside0.mk (ho); clear HB; clear HO115; have HB := n0_; have HO118 := n1_; clear n0_ n1_; clear ho hb hg hat) | ((with_reducible refine gate_builtin (b := .append) (xs := #[.tmp 61, .tmp 62]) rfl ?_); (try (refine gate_guard (by rfl) ?_; dsimp only)); at_builtin; refine Kd.R_append_rows (Kd.int .u8) (w0 := w) w.heap.size rfl (.tmp 61) (.tmp 62) 22 5 (.int .u8 0) 1 rfl Tryd.underlying22 info5 rfl (by decide) (by omega) v117 y116 l1 _ _ _ (fun _ => True) (fun _ => False) rfl rfl ?aO ?aR (fun _ _ h => h) (fun _ h => h.elim) ?aF ?aB ?aS ?aL ?_; (case aR => repeat (first | exact (Kd.C_below HR1.out HB.out) | (with_reducible refine Kd.C_alloc ?_ _) | (with_reducible refine Kd.C_drewN ?_ _) | (with_reducible refine Kd.C_drew ?_))); (case aB => exact (by repeat (first | (with_reducible first | exact HB.out | apply below_alloc | apply pw_below_drewN | apply below_drew1) | exact HB.out))); (case aF => exact (fun _ _ => trivial)); (case aO => exact (by (with_reducible repeat (first | apply Kd.R_alloc | apply Kd.R_drewN | apply Kd.R_drew)); exact HO118.out)); (case aS => exact (below_size (by repeat (first | (with_reducible first | exact HB.out | apply below_alloc | apply pw_below_drewN | apply below_drew1) | exact HB.out)))); (case aL => have := LMc22.out; omega); intro v120 w31 ho hb hg hat; rw [← Ny119.out] at ho; have n0_ := Aside0.mk (hb); have n1_ := Aside0.mk (ho); clear HB; clear HO118; have HB := n0_; have HO121 := n1_; clear n0_ n1_; clear ho hb hg hat; obtain ⟨Ao32, co32, eo32⟩ := Kd.R_slice HO121.out; subst eo32) | (go_at_call 11; (with_reducible refine (Ext.coin_Text.calls _ _ y119 t122 _ ?side3 ?side1 ?side2 A23.out).mono ?_); (case side1 => repeat (first | exact (Kd.R_reads' HO121.out).2.2 | (with_reducible refine Kd.C_alloc ?_ _) | (with_reducible refine Kd.C_drewN ?_ _) | (with_reducible refine Kd.C_drew ?_))); (case side2 => exact (Kd.R_reads' HO121.out).2.1); (case side3 => first | (with_reducible exact HG.out) | (with_reducible exact Ext.GL.drewN HG.out _) | exact Ext.GL.below HG.out (by repeat (first | (with_reducible first | exact HB.out | apply below_alloc | apply pw_below_drewN | apply below_drew1) | exact HB.out))); rintro e w33 ⟨rfl, hb⟩; have n0_ := Aside0.mk (Kd.R_below (by (with_reducible repeat (first | apply Kd.R_alloc | apply Kd.R_drewN | apply Kd.R_drew)); exact HO121.out) hb); have n1_ := Aside0.mk (below_step (by repeat (first | (with_reducible first | exact HB.out | apply below_alloc | apply pw_below_drewN | apply below_drew1) | exact HB.out)) hb); clear HO121; clear HB; have HO121 := n0_; have HB := n1_; clear n0_ n1_; (try clear hb); (try clear hb2); (try clear hk); (try clear hi)))
                        go_ret
                        exact ⟨by first | rfl | (simp [errW_none, errW_some] <;> rfl) | (simp only [← hji13]; first | rfl | (simp [errW_none, errW_some] <;> rfl)) | (simp [*, errW_none, errW_some] <;> rfl), by repeat (first | (with_reducible first | exact HB.out | apply below_alloc | apply pw_below_drewN | apply below_drew1) | exact HB.out)⟩
                      · rw [if_neg c24] at H
                        exact absurd H (by simp)
                    · rw [if_neg c22] at H
                      exact absurd H (by simp)
                  · rw [if_neg c21] at H
                    exact absurd H (by simp)
                · rw [if_neg c20] at H
                  have c20b0 : ((t112.size : Int) == (wrap64 ((wrap64 ((wrap64 ((l1.length : Int) / 3)) * 4)) + (((l1.length : Int) % 3) + 1)))) = false := beq_eq_false_iff_ne.mpr c20
                  have c20b1 : ((t112.size : Int) != (wrap64 ((wrap64 ((wrap64 ((l1.length : Int) / 3)) * 4)) + (((l1.length : Int) % 3) + 1)))) = true := bne_iff_ne.mpr c20
                  obtain rfl := Option.some.inj H
                  have q34 : ((ji13) : Int) ≤ ((l0.length : Int) : Int) := of_decide_eq_true (by first | (with_reducible assumption) | assumption)
                  obtain ⟨i034, hi034, _, hsz34, _⟩ := info_parts info5
                  have hroom34 : l0.length ≤ c0 := HC0.out
                  have hC34 : Kd.C (Kd.int .u8) _ A0 l0.length l0 := HR0.out
                  have hcut34 := cut_to (P := Tryd.prog) 22 5 .i64 Tryd.underlying22 hi034 A0 l0.length c0 (ji13) (of_decide_eq_true (by first | (with_reducible assumption) | assumption)) q34 hroom34
                  have hr34 := Kd.C_take (m := ((ji13) : Int).toNat) hC34 (by omega)
                  have hy34 : y107.length = ((ji13) : Int).toNat := (by rw [Ny107.out, List.length_take]; omega)
                  rw [← Ny107.out] at hr34
                  rw [← hy34] at hcut34
                  have HR110 := Aside0.mk hr34
                  have HC110 := Aside0.mk (show y107.length ≤ c0 from by omega)
                  clear hr34 hC34 hroom34 hi034 hsz34
                  have KY34 := Aside0.mk hy34
                  clear hy34
                  replace q34 := eq_true q34
                  go_wp2_with (first | ((with_reducible refine gate_callee (f := 11) rfl ?_); refine goesL_ (some 28) rfl rfl Tryd.func11 (by kernel_rfl) rfl #[.slice A0 y107.length c0] rfl (by (try simp only [List.map_toArray, List.map_cons, List.map_nil]); first | done | rfl | (simp only [List.length_drop, List.length_take]; rfl)) ?_; (with_reducible refine (Ext.coin_Text.calls _ _ y107 t111 _ ?side3 ?side1 ?side2 A16.out).mono ?_); (case side1 => repeat (first | exact (Kd.C_below HR110.out HB.out) | (with_reducible refine Kd.C_alloc ?_ _) | (with_reducible refine Kd.C_drewN ?_ _) | (with_reducible refine Kd.C_drew ?_))); (case side2 => exact HC110.out); (case side3 => first | (with_reducible exact HG.out) | (with_reducible exact Ext.GL.drewN HG.out _) | exact Ext.GL.below HG.out (by repeat (first | (with_reducible first | exact HB.out | apply below_alloc | apply pw_below_drewN | apply below_drew1) | exact HB.out))); rintro e w35 ⟨rfl, hb⟩; refine ⟨_, rfl, ?_⟩; have n0_ := Aside0.mk (below_step (by repeat (first | (with_reducible first | exact HB.out | apply below_alloc | apply pw_below_drewN | apply below_drew1) | exact HB.out)) hb); clear HB; have HB := n0_; clear n0_; (try clear hb); (try clear hb2); (try clear hk); (try clear hi)) | ((with_reducible refine gate_callee (f := 11) rfl ?_); refine goesL_ (some 30) rfl rfl Tryd.func11 (by kernel_rfl) rfl #[.slice A1 l1.length c1] rfl (by (try simp only [List.map_toArray, List.map_cons, List.map_nil]); first | done | rfl | (simp only [List.length_drop, List.length_take]; rfl)) ?_; (with_reducible refine (Ext.coin_Text.calls _ _ l1 t112 _ ?side3 ?side1 ?side2 A17.out).mono ?_); (case side1 => repeat (first | exact (Kd.C_below HR1.out HB.out) | (with_reducible refine Kd.C_alloc ?_ _) | (with_reducible refine Kd.C_drewN ?_ _) | (with_reducible refine Kd.C_drew ?_))); (case side2 => exact HC1.out); (case side3 => first | (with_reducible exact HG.out) | (with_reducible exact Ext.GL.drewN HG.out _) | exact Ext.GL.below HG.out (by repeat (first | (with_reducible first | exact HB.out | apply below_alloc | apply pw_below_drewN | apply below_drew1) | exact HB.out))); rintro e w36 ⟨rfl, hb⟩; refine ⟨_, rfl, ?_⟩; have n0_ := Aside0.mk (below_step (by repeat (first | (with_reducible first | exact HB.out | apply below_alloc | apply pw_below_drewN | apply below_drew1) | exact HB.out)) hb); clear HB; have HB := n0_; clear n0_; (try clear hb); (try clear hb2); (try clear hk); (try clear hi)))
                  go_ret
                  exact ⟨by first | rfl | (simp [errW_none, errW_some] <;> rfl) | (simp only [← hji13]; first | rfl | (simp [errW_none, errW_some] <;> rfl)) | (simp [*, errW_none, errW_some] <;> rfl), by repeat (first | (with_reducible first | exact HB.out | apply below_alloc | apply pw_below_drewN | apply below_drew1) | exact HB.out)⟩
              · rw [if_neg c19] at H
                have c19b0 : ((t111.size : Int) == (wrap64 ((wrap64 ((y107.length : Int) / 3)) * 4))) = false := beq_eq_false_iff_ne.mpr c19
                have c19b1 : ((t111.size : Int) != (wrap64 ((wrap64 ((y107.length : Int) / 3)) * 4))) = true := bne_iff_ne.mpr c19
                obtain rfl := Option.some.inj H
                have q37 : ((ji13) : Int) ≤ ((l0.length : Int) : Int) := of_decide_eq_true (by first | (with_reducible assumption) | assumption)
                obtain ⟨i037, hi037, _, hsz37, _⟩ := info_parts info5
                have hroom37 : l0.length ≤ c0 := HC0.out
                have hC37 : Kd.C (Kd.int .u8) _ A0 l0.length l0 := HR0.out
                have hcut37 := cut_to (P := Tryd.prog) 22 5 .i64 Tryd.underlying22 hi037 A0 l0.length c0 (ji13) (of_decide_eq_true (by first | (with_reducible assumption) | assumption)) q37 hroom37
                have hr37 := Kd.C_take (m := ((ji13) : Int).toNat) hC37 (by omega)
                have hy37 : y107.length = ((ji13) : Int).toNat := (by rw [Ny107.out, List.length_take]; omega)
                rw [← Ny107.out] at hr37
                rw [← hy37] at hcut37
                have HR110 := Aside0.mk hr37
                have HC110 := Aside0.mk (show y107.length ≤ c0 from by omega)
                clear hr37 hC37 hroom37 hi037 hsz37
                have KY37 := Aside0.mk hy37
                clear hy37
                replace q37 := eq_true q37
                go_wp2_with (first | ((with_reducible refine gate_callee (f := 11) rfl ?_); refine goesL_ (some 28) rfl rfl Tryd.func11 (by kernel_rfl) rfl #[.slice A0 y107.length c0] rfl (by (try simp only [List.map_toArray, List.map_cons, List.map_nil]); first | done | rfl | (simp only [List.length_drop, List.length_take]; rfl)) ?_; (with_reducible refine (Ext.coin_Text.calls _ _ y107 t111 _ ?side3 ?side1 ?side2 A16.out).mono ?_); (case side1 => repeat (first | exact (Kd.C_below HR110.out HB.out) | (with_reducible refine Kd.C_alloc ?_ _) | (with_reducible refine Kd.C_drewN ?_ _) | (with_reducible refine Kd.C_drew ?_))); (case side2 => exact HC110.out); (case side3 => first | (with_reducible exact HG.out) | (with_reducible exact Ext.GL.drewN HG.out _) | exact Ext.GL.below HG.out (by repeat (first | (with_reducible first | exact HB.out | apply below_alloc | apply pw_below_drewN | apply below_drew1) | exact HB.out))); rintro e w38 ⟨rfl, hb⟩; refine ⟨_, rfl, ?_⟩; have n0_ := Aside0.mk (below_step (by repeat (first | (with_reducible first | exact HB.out | apply below_alloc | apply pw_below_drewN | apply below_drew1) | exact HB.out)) hb); clear HB; have HB := n0_; clear n0_; (try clear hb); (try clear hb2); (try clear hk); (try clear hi)) | ((with_reducible refine gate_callee (f := 11) rfl ?_); refine goesL_ (some 30) rfl rfl Tryd.func11 (by kernel_rfl) rfl #[.slice A1 l1.length c1] rfl (by (try simp only [List.map_toArray, List.map_cons, List.map_nil]); first | done | rfl | (simp only [List.length_drop, List.length_take]; rfl)) ?_; (with_reducible refine (Ext.coin_Text.calls _ _ l1 t112 _ ?side3 ?side1 ?side2 A17.out).mono ?_); (case side1 => repeat (first | exact (Kd.C_below HR1.out HB.out) | (with_reducible refine Kd.C_alloc ?_ _) | (with_reducible refine Kd.C_drewN ?_ _) | (with_reducible refine Kd.C_drew ?_))); (case side2 => exact HC1.out); (case side3 => first | (with_reducible exact HG.out) | (with_reducible exact Ext.GL.drewN HG.out _) | exact Ext.GL.below HG.out (by repeat (first | (with_reducible first | exact HB.out | apply below_alloc | apply pw_below_drewN | apply below_drew1) | exact HB.out))); rintro e w39 ⟨rfl, hb⟩; refine ⟨_, rfl, ?_⟩; have n0_ := Aside0.mk (below_step (by repeat (first | (with_reducible first | exact HB.out | apply below_alloc | apply pw_below_drewN | apply below_drew1) | exact HB.out)) hb); clear HB; have HB := n0_; clear n0_; (try clear hb); (try clear hb2); (try clear hk); (try clear hi)))
                go_ret
                exact ⟨by first | rfl | (simp [errW_none, errW_some] <;> rfl) | (simp only [← hji13]; first | rfl | (simp [errW_none, errW_some] <;> rfl)) | (simp [*, errW_none, errW_some] <;> rfl), by repeat (first | (with_reducible first | exact HB.out | apply below_alloc | apply pw_below_drewN | apply below_drew1) | exact HB.out)⟩
            · rw [if_neg c18] at H
              have c18b0 : decide (0 < ((l1.length : Int) % 3)) = false := decide_eq_false c18
              clear c18
              by_cases c40 : (t111.size : Int) = (wrap64 ((wrap64 ((y107.length : Int) / 3)) * 4))
              · rw [if_pos c40] at H
                have c40b0 : ((t111.size : Int) == (wrap64 ((wrap64 ((y107.length : Int) / 3)) * 4))) = true := beq_iff_eq.mpr c40
                have c40b1 : ((t111.size : Int) != (wrap64 ((wrap64 ((y107.length : Int) / 3)) * 4))) = false := bne_eq_false_iff_eq.mpr c40
                clear c40
                by_cases c41 : (t112.size : Int) = (wrap64 ((wrap64 ((l1.length : Int) / 3)) * 4))
                · rw [if_pos c41] at H
                  have c41b0 : ((t112.size : Int) == (wrap64 ((wrap64 ((l1.length : Int) / 3)) * 4))) = true := beq_iff_eq.mpr c41
                  have c41b1 : ((t112.size : Int) != (wrap64 ((wrap64 ((l1.length : Int) / 3)) * 4))) = false := bne_eq_false_iff_eq.mpr c41
                  clear c41
                  obtain ⟨y123, hy123⟩ : ∃ y_ : List Int, y_ = (([] : List Int)) := ⟨_, rfl⟩
                  replace H : (if y123.length + y107.length < 140737488355328 then ((some (y123 ++ y107 : List Int)).bind fun y126 => (if y126.length + l1.length < 140737488355328 then ((Ext.coin_Text.f (y126 ++ l1)).bind fun t132 => (if t111.size + t112.size ≤ 9223372036854775807 then (some (t132.toList == (t111 ++ t112).toList)) else (none))) else (none))) else (none)) = some r := by first | (rw [hy123]; with_reducible exact H) | (have H2_ := (Option.bind_some _ _).symm.trans H; rw [hy123]; with_reducible exact H2_) | (have H2_ := (Option.bind_some _ _).symm.trans H; with_reducible exact H2_) | with_reducible exact H | (rw [hy123]; exact H) | exact H
                  have Ny123 := Aside0.mk hy123
                  clear hy123
                  by_cases c42 : y123.length + y107.length < 140737488355328
                  · rw [if_pos c42] at H
                    have LMc42 := Aside0.mk c42
                    clear c42
                    obtain ⟨y126, hy126⟩ : ∃ y_ : List Int, y_ = (y123 ++ y107) := ⟨_, rfl⟩
                    replace H : (if y126.length + l1.length < 140737488355328 then ((Ext.coin_Text.f (y126 ++ l1)).bind fun t132 => (if t111.size + t112.size ≤ 9223372036854775807 then (some (t132.toList == (t111 ++ t112).toList)) else (none))) else (none)) = some r := by first | (rw [hy126]; with_reducible exact H) | (have H2_ := (Option.bind_some _ _).symm.trans H; rw [hy126]; with_reducible exact H2_) | (have H2_ := (Option.bind_some _ _).symm.trans H; with_reducible exact H2_) | with_reducible exact H | (rw [hy126]; exact H) | exact H
                    have Ny126 := Aside0.mk hy126
                    clear hy126
                    by_cases c43 : y126.length + l1.length < 140737488355328
                    · rw [if_pos c43] at H
                      have LMc43 := Aside0.mk c43
                      clear c43
                      obtain ⟨y129, hy129⟩ : ∃ y_ : List Int, y_ = (y126 ++ l1) := ⟨_, rfl⟩
                      replace H : ((Ext.coin_Text.f y129).bind fun t132 => (if t111.size + t112.size ≤ 9223372036854775807 then (some (t132.toList == (t111 ++ t112).toList)) else (none))) = some r := by first | (rw [hy129]; with_reducible exact H) | (have H2_ := (Option.bind_some _ _).symm.trans H; rw [hy129]; with_reducible exact H2_) | (have H2_ := (Option.bind_some _ _).symm.trans H; with_reducible exact H2_) | with_reducible exact H | (rw [hy129]; exact H) | exact H
                      have Ny129 := Aside0.mk hy129
                      clear hy129
                      replace H := Option.bind_eq_some_iff.mp H
                      obtain ⟨t132, A440, H⟩ := H
                      replace H : (if t111.size + t112.size ≤ 9223372036854775807 then (some (t132.toList == (t111 ++ t112).toList)) else (none)) = some r := H
                      have A44 := Aside0.mk A440
                      clear A440
                      by_cases c45 : t111.size + t112.size ≤ 9223372036854775807
                      · rw [if_pos c45] at H
                        have c45b0 := eq_true c45
                        have c45b1 : decide (t111.size + t112.size ≤ 9223372036854775807) = true := decide_eq_true c45
                        try have c45b2 : (9223372036854775807 < t111.size + t112.size) = False := eq_false (Nat.not_lt.2 c45)
                        obtain rfl := Option.some.inj H
                        have q46 : ((ji13) : Int) ≤ ((l0.length : Int) : Int) := of_decide_eq_true (by first | (with_reducible assumption) | assumption)
                        obtain ⟨i046, hi046, _, hsz46, _⟩ := info_parts info5
                        have hroom46 : l0.length ≤ c0 := HC0.out
                        have hC46 : Kd.C (Kd.int .u8) _ A0 l0.length l0 := HR0.out
                        have hcut46 := cut_to (P := Tryd.prog) 22 5 .i64 Tryd.underlying22 hi046 A0 l0.length c0 (ji13) (of_decide_eq_true (by first | (with_reducible assumption) | assumption)) q46 hroom46
                        have hr46 := Kd.C_take (m := ((ji13) : Int).toNat) hC46 (by omega)
                        have hy46 : y107.length = ((ji13) : Int).toNat := (by rw [Ny107.out, List.length_take]; omega)
                        rw [← Ny107.out] at hr46
                        rw [← hy46] at hcut46
                        have HR110 := Aside0.mk hr46
                        have HC110 := Aside0.mk (show y107.length ≤ c0 from by omega)
                        clear hr46 hC46 hroom46 hi046 hsz46
                        have KY46 := Aside0.mk hy46
                        clear hy46
                        replace q46 := eq_true q46
                        go_wp2_with (first | ((with_reducible refine gate_callee (f := 11) rfl ?_); refine goesL_ (some 28) rfl rfl Tryd.func11 (by kernel_rfl) rfl #[.slice A0 y107.length c0] rfl (by (try simp only [List.map_toArray, List.map_cons, List.map_nil]); first | done | rfl | (simp only [List.length_drop, List.length_take]; rfl)) ?_; (with_reducible refine (Ext.coin_Text.calls _ _ y107 t111 _ ?side3 ?side1 ?side2 A16.out).mono ?_); (case side1 => repeat (first | exact (Kd.C_below HR110.out HB.out) | (with_reducible refine Kd.C_alloc ?_ _) | (with_reducible refine Kd.C_drewN ?_ _) | (with_reducible refine Kd.C_drew ?_))); (case side2 => exact HC110.out); (case side3 => first | (with_reducible exact HG.out) | (with_reducible exact Ext.GL.drewN HG.out _) | exact Ext.GL.below HG.out (by repeat (first | (with_reducible first | exact HB.out | apply below_alloc | apply pw_below_drewN | apply below_drew1) | exact HB.out))); rintro e w47 ⟨rfl, hb⟩; refine ⟨_, rfl, ?_⟩; have n0_ := Aside0.mk (below_step (by repeat (first | (with_reducible first | exact HB.out | apply below_alloc | apply pw_below_drewN | apply below_drew1) | exact HB.out)) hb); clear HB; have HB := n0_; clear n0_; (try clear hb); (try clear hb2); (try clear hk); (try clear hi)) | ((with_reducible refine gate_callee (f := 11) rfl ?_); refine goesL_ (some 30) rfl rfl Tryd.func11 (by kernel_rfl) rfl #[.slice A1 l1.length c1] rfl (by (try simp only [List.map_toArray, List.map_cons, List.map_nil]); first | done | rfl | (simp only [List.length_drop, List.length_take]; rfl)) ?_; (with_reducible refine (Ext.coin_Text.calls _ _ l1 t112 _ ?side3 ?side1 ?side2 A17.out).mono ?_); (case side1 => repeat (first | exact (Kd.C_below HR1.out HB.out) | (with_reducible refine Kd.C_alloc ?_ _) | (with_reducible refine Kd.C_drewN ?_ _) | (with_reducible refine Kd.C_drew ?_))); (case side2 => exact HC1.out); (case side3 => first | (with_reducible exact HG.out) | (with_reducible exact Ext.GL.drewN HG.out _) | exact Ext.GL.below HG.out (by repeat (first | (with_reducible first | exact HB.out | apply below_alloc | apply pw_below_drewN | apply below_drew1) | exact HB.out))); rintro e w48 ⟨rfl, hb⟩; refine ⟨_, rfl, ?_⟩; have n0_ := Aside0.mk (below_step (by repeat (first | (with_reducible first | exact HB.out | apply below_alloc | apply pw_below_drewN | apply below_drew1) | exact HB.out)) hb); clear HB; have HB := n0_; clear n0_; (try clear hb); (try clear hb2); (try clear hk); (try clear hi)) | ((with_reducible refine gate_dst (N := 59) rfl ?_); (try (refine gate_guard (by rfl) ?_; dsimp only)); refine Kd.R_lit (Kd.int .u8) _ 5 ?hg (N := 59) ?hd (xs := ([] : List Int)) (inner := []) (ok := fun _ => True) (okp := fun _ => True) ?hr ?hp (fun _ hk => hk) trivial (Below.refl _ _) (Nat.le_refl _) (by simp) ?_; (case hd => rfl); (case hg => rfl); (case hr => first | (go_simp; done) | (go_simp; rfl)); (case hp => exact (Reps.none _ _)); intro v124 w49 ho50 hb hg_ hnew_; clear hg_ hnew_; (first | rw [← Ny123.out] at ho50 | (simp only [Int.reduceToNat] at ho50; rw [← Ny123.out] at ho50)); have n0_ := Aside0.mk (Kd.R_lower ho50 (below_size (by repeat (first | (with_reducible first | exact HB.out | apply below_alloc | apply pw_below_drewN | apply below_drew1) | exact HB.out)))); have n1_ := Aside0.mk (below_step (by repeat (first | (with_reducible first | exact HB.out | apply below_alloc | apply pw_below_drewN | apply below_drew1) | exact HB.out)) hb); clear HB; have HO125 := n0_; have HB := n1_; clear n0_ n1_; clear hb ho50) | ((with_reducible refine gate_builtin (b := .append) (xs := #[.tmp 59, .tmp 60]) rfl ?_); (try (refine gate_guard (by rfl) ?_; dsimp only)); at_builtin; refine Kd.R_append_rows (Kd.int .u8) (w0 := w) w.heap.size rfl (.tmp 59) (.tmp 60) 22 5 (.int .u8 0) 1 rfl Tryd.underlying22 info5 rfl (by decide) (by omega) v124 y123 y107 _ _ _ (fun _ => True) (fun _ => False) rfl rfl ?aO ?aR (fun _ _ h => h) (fun _ h => h.elim) ?aF ?aB ?aS ?aL ?_; (case aR => repeat (first | exact (Kd.C_below HR110.out HB.out) | (with_reducible refine Kd.C_alloc ?_ _) | (with_reducible refine Kd.C_drewN ?_ _) | (with_reducible refine Kd.C_drew ?_))); (case aB => exact (by repeat (first | (with_reducible first | exact HB.out | apply below_alloc | apply pw_below_drewN | apply below_drew1) | exact HB.out))); (case aF => exact (fun _ _ => trivial)); (case aO => exact (by (with_reducible repeat (first | apply Kd.R_alloc | apply Kd.R_drewN | apply Kd.R_drew)); exact HO125.out)); (case aS => exact (below_size (by repeat (first | (with_reducible first | exact HB.out | apply below_alloc | apply pw_below_drewN | apply below_drew1) | exact HB.out)))); (case aL => have := LMc42.out; omega); intro v127 w51 ho hb hg hat; rw [← Ny126.out] at ho; have n0_ := Aside0.mk (hb); have n1_ := Aside0.mk (ho); clear HB; clear HO125; have HB := n0_; have HO128 := n1_; clear n0_ n1_; clear ho hb hg hat) | ((with_reducible refine gate_builtin (b := .append) (xs := #[.tmp 61, .tmp 62]) rfl ?_); (try (refine gate_guard (by rfl) ?_; dsimp only)); at_builtin; refine Kd.R_append_rows (Kd.int .u8) (w0 := w) w.heap.size rfl (.tmp 61) (.tmp 62) 22 5 (.int .u8 0) 1 rfl Tryd.underlying22 info5 rfl (by decide) (by omega) v127 y126 l1 _ _ _ (fun _ => True) (fun _ => False) rfl rfl ?aO ?aR (fun _ _ h => h) (fun _ h => h.elim) ?aF ?aB ?aS ?aL ?_; (case aR => repeat (first | exact (Kd.C_below HR1.out HB.out) | (with_reducible refine Kd.C_alloc ?_ _) | (with_reducible refine Kd.C_drewN ?_ _) | (with_reducible refine Kd.C_drew ?_))); (case aB => exact (by repeat (first | (with_reducible first | exact HB.out | apply below_alloc | apply pw_below_drewN | apply below_drew1) | exact HB.out))); (case aF => exact (fun _ _ => trivial)); (case aO => exact (by (with_reducible repeat (first | apply Kd.R_alloc | apply Kd.R_drewN | apply Kd.R_drew)); exact HO128.out)); (case aS => exact (below_size (by repeat (first | (with_reducible first | exact HB.out | apply below_alloc | apply pw_below_drewN | apply below_drew1) | exact HB.out)))); (case aL => have := LMc43.out; omega); intro v130 w52 ho hb hg hat; rw [← Ny129.out] at ho; have n0_ := Aside0.mk (hb); have n1_ := Aside0.mk (ho); clear HB; clear HO128; have HB := n0_; have HO131 := n1_; clear n0_ n1_; clear ho hb hg hat; obtain ⟨Ao53, co53, eo53⟩ := Kd.R_slice HO131.out; subst eo53) | (go_at_call 11; (with_reducible refine (Ext.coin_Text.calls _ _ y129 t132 _ ?side3 ?side1 ?side2 A44.out).mono ?_); (case side1 => repeat (first | exact (Kd.R_reads' HO131.out).2.2 | (with_reducible refine Kd.C_alloc ?_ _) | (with_reducible refine Kd.C_drewN ?_ _) | (with_reducible refine Kd.C_drew ?_))); (case side2 => exact (Kd.R_reads' HO131.out).2.1); (case side3 => first | (with_reducible exact HG.out) | (with_reducible exact Ext.GL.drewN HG.out _) | exact Ext.GL.below HG.out (by repeat (first | (with_reducible first | exact HB.out | apply below_alloc | apply pw_below_drewN | apply below_drew1) | exact HB.out))); rintro e w54 ⟨rfl, hb⟩; have n0_ := Aside0.mk (Kd.R_below (by (with_reducible repeat (first | apply Kd.R_alloc | apply Kd.R_drewN | apply Kd.R_drew)); exact HO131.out) hb); have n1_ := Aside0.mk (below_step (by repeat (first | (with_reducible first | exact HB.out | apply below_alloc | apply pw_below_drewN | apply below_drew1) | exact HB.out)) hb); clear HO131; clear HB; have HO131 := n0_; have HB := n1_; clear n0_ n1_; (try clear hb); (try clear hb2); (try clear hk); (try clear hi)))
                        go_ret
                        exact ⟨by first | rfl | (simp [errW_none, errW_some] <;> rfl) | (simp only [← hji13]; first | rfl | (simp [errW_none, errW_some] <;> rfl)) | (simp [*, errW_none, errW_some] <;> rfl), by repeat (first | (with_reducible first | exact HB.out | apply below_alloc | apply pw_below_drewN | apply below_drew1) | exact HB.out)⟩
                      · rw [if_neg c45] at H
                        exact absurd H (by simp)
                    · rw [if_neg c43] at H
                      exact absurd H (by simp)
                  · rw [if_neg c42] at H
                    exact absurd H (by simp)
                · rw [if_neg c41] at H
                  have c41b0 : ((t112.size : Int) == (wrap64 ((wrap64 ((l1.length : Int) / 3)) * 4))) = false := beq_eq_false_iff_ne.mpr c41
                  have c41b1 : ((t112.size : Int) != (wrap64 ((wrap64 ((l1.length : Int) / 3)) * 4))) = true := bne_iff_ne.mpr c41
                  obtain rfl := Option.some.inj H
                  have q55 : ((ji13) : Int) ≤ ((l0.length : Int) : Int) := of_decide_eq_true (by first | (with_reducible assumption) | assumption)
                  obtain ⟨i055, hi055, _, hsz55, _⟩ := info_parts info5
                  have hroom55 : l0.length ≤ c0 := HC0.out
                  have hC55 : Kd.C (Kd.int .u8) _ A0 l0.length l0 := HR0.out
                  have hcut55 := cut_to (P := Tryd.prog) 22 5 .i64 Tryd.underlying22 hi055 A0 l0.length c0 (ji13) (of_decide_eq_true (by first | (with_reducible assumption) | assumption)) q55 hroom55
                  have hr55 := Kd.C_take (m := ((ji13) : Int).toNat) hC55 (by omega)
                  have hy55 : y107.length = ((ji13) : Int).toNat := (by rw [Ny107.out, List.length_take]; omega)
                  rw [← Ny107.out] at hr55
                  rw [← hy55] at hcut55
                  have HR110 := Aside0.mk hr55
                  have HC110 := Aside0.mk (show y107.length ≤ c0 from by omega)
                  clear hr55 hC55 hroom55 hi055 hsz55
                  have KY55 := Aside0.mk hy55
                  clear hy55
                  replace q55 := eq_true q55
                  go_wp2_with (first | ((with_reducible refine gate_callee (f := 11) rfl ?_); refine goesL_ (some 28) rfl rfl Tryd.func11 (by kernel_rfl) rfl #[.slice A0 y107.length c0] rfl (by (try simp only [List.map_toArray, List.map_cons, List.map_nil]); first | done | rfl | (simp only [List.length_drop, List.length_take]; rfl)) ?_; (with_reducible refine (Ext.coin_Text.calls _ _ y107 t111 _ ?side3 ?side1 ?side2 A16.out).mono ?_); (case side1 => repeat (first | exact (Kd.C_below HR110.out HB.out) | (with_reducible refine Kd.C_alloc ?_ _) | (with_reducible refine Kd.C_drewN ?_ _) | (with_reducible refine Kd.C_drew ?_))); (case side2 => exact HC110.out); (case side3 => first | (with_reducible exact HG.out) | (with_reducible exact Ext.GL.drewN HG.out _) | exact Ext.GL.below HG.out (by repeat (first | (with_reducible first | exact HB.out | apply below_alloc | apply pw_below_drewN | apply below_drew1) | exact HB.out))); rintro e w56 ⟨rfl, hb⟩; refine ⟨_, rfl, ?_⟩; have n0_ := Aside0.mk (below_step (by repeat (first | (with_reducible first | exact HB.out | apply below_alloc | apply pw_below_drewN | apply below_drew1) | exact HB.out)) hb); clear HB; have HB := n0_; clear n0_; (try clear hb); (try clear hb2); (try clear hk); (try clear hi)) | ((with_reducible refine gate_callee (f := 11) rfl ?_); refine goesL_ (some 30) rfl rfl Tryd.func11 (by kernel_rfl) rfl #[.slice A1 l1.length c1] rfl (by (try simp only [List.map_toArray, List.map_cons, List.map_nil]); first | done | rfl | (simp only [List.length_drop, List.length_take]; rfl)) ?_; (with_reducible refine (Ext.coin_Text.calls _ _ l1 t112 _ ?side3 ?side1 ?side2 A17.out).mono ?_); (case side1 => repeat (first | exact (Kd.C_below HR1.out HB.out) | (with_reducible refine Kd.C_alloc ?_ _) | (with_reducible refine Kd.C_drewN ?_ _) | (with_reducible refine Kd.C_drew ?_))); (case side2 => exact HC1.out); (case side3 => first | (with_reducible exact HG.out) | (with_reducible exact Ext.GL.drewN HG.out _) | exact Ext.GL.below HG.out (by repeat (first | (with_reducible first | exact HB.out | apply below_alloc | apply pw_below_drewN | apply below_drew1) | exact HB.out))); rintro e w57 ⟨rfl, hb⟩; refine ⟨_, rfl, ?_⟩; have n0_ := Aside0.mk (below_step (by repeat (first | (with_reducible first | exact HB.out | apply below_alloc | apply pw_below_drewN | apply below_drew1) | exact HB.out)) hb); clear HB; have HB := n0_; clear n0_; (try clear hb); (try clear hb2); (try clear hk); (try clear hi)))
                  go_ret
                  exact ⟨by first | rfl | (simp [errW_none, errW_some] <;> rfl) | (simp only [← hji13]; first | rfl | (simp [errW_none, errW_some] <;> rfl)) | (simp [*, errW_none, errW_some] <;> rfl), by repeat (first | (with_reducible first | exact HB.out | apply below_alloc | apply pw_below_drewN | apply below_drew1) | exact HB.out)⟩
              · rw [if_neg c40] at H
                have c40b0 : ((t111.size : Int) == (wrap64 ((wrap64 ((y107.length : Int) / 3)) * 4))) = false := beq_eq_false_iff_ne.mpr c40
                have c40b1 : ((t111.size : Int) != (wrap64 ((wrap64 ((y107.length : Int) / 3)) * 4))) = true := bne_iff_ne.mpr c40
                obtain rfl := Option.some.inj H
                have q58 : ((ji13) : Int) ≤ ((l0.length : Int) : Int) := of_decide_eq_true (by first | (with_reducible assumption) | assumption)
                obtain ⟨i058, hi058, _, hsz58, _⟩ := info_parts info5
                have hroom58 : l0.length ≤ c0 := HC0.out
                have hC58 : Kd.C (Kd.int .u8) _ A0 l0.length l0 := HR0.out
                have hcut58 := cut_to (P := Tryd.prog) 22 5 .i64 Tryd.underlying22 hi058 A0 l0.length c0 (ji13) (of_decide_eq_true (by first | (with_reducible assumption) | assumption)) q58 hroom58
                have hr58 := Kd.C_take (m := ((ji13) : Int).toNat) hC58 (by omega)
                have hy58 : y107.length = ((ji13) : Int).toNat := (by rw [Ny107.out, List.length_take]; omega)
                rw [← Ny107.out] at hr58
                rw [← hy58] at hcut58
                have HR110 := Aside0.mk hr58
                have HC110 := Aside0.mk (show y107.length ≤ c0 from by omega)
                clear hr58 hC58 hroom58 hi058 hsz58
                have KY58 := Aside0.mk hy58
                clear hy58
                replace q58 := eq_true q58
                go_wp2_with (first | ((with_reducible refine gate_callee (f := 11) rfl ?_); refine goesL_ (some 28) rfl rfl Tryd.func11 (by kernel_rfl) rfl #[.slice A0 y107.length c0] rfl (by (try simp only [List.map_toArray, List.map_cons, List.map_nil]); first | done | rfl | (simp only [List.length_drop, List.length_take]; rfl)) ?_; (with_reducible refine (Ext.coin_Text.calls _ _ y107 t111 _ ?side3 ?side1 ?side2 A16.out).mono ?_); (case side1 => repeat (first | exact (Kd.C_below HR110.out HB.out) | (with_reducible refine Kd.C_alloc ?_ _) | (with_reducible refine Kd.C_drewN ?_ _) | (with_reducible refine Kd.C_drew ?_))); (case side2 => exact HC110.out); (case side3 => first | (with_reducible exact HG.out) | (with_reducible exact Ext.GL.drewN HG.out _) | exact Ext.GL.below HG.out (by repeat (first | (with_reducible first | exact HB.out | apply below_alloc | apply pw_below_drewN | apply below_drew1) | exact HB.out))); rintro e w59 ⟨rfl, hb⟩; refine ⟨_, rfl, ?_⟩; have n0_ := Aside0.mk (below_step (by repeat (first | (with_reducible first | exact HB.out | apply below_alloc | apply pw_below_drewN | apply below_drew1) | exact HB.out)) hb); clear HB; have HB := n0_; clear n0_; (try clear hb); (try clear hb2); (try clear hk); (try clear hi)) | ((with_reducible refine gate_callee (f := 11) rfl ?_); refine goesL_ (some 30) rfl rfl Tryd.func11 (by kernel_rfl) rfl #[.slice A1 l1.length c1] rfl (by (try simp only [List.map_toArray, List.map_cons, List.map_nil]); first | done | rfl | (simp only [List.length_drop, List.length_take]; rfl)) ?_; (with_reducible refine (Ext.coin_Text.calls _ _ l1 t112 _ ?side3 ?side1 ?side2 A17.out).mono ?_); (case side1 => repeat (first | exact (Kd.C_below HR1.out HB.out) | (with_reducible refine Kd.C_alloc ?_ _) | (with_reducible refine Kd.C_drewN ?_ _) | (with_reducible refine Kd.C_drew ?_))); (case side2 => exact HC1.out); (case side3 => first | (with_reducible exact HG.out) | (with_reducible exact Ext.GL.drewN HG.out _) | exact Ext.GL.below HG.out (by repeat (first | (with_reducible first | exact HB.out | apply below_alloc | apply pw_below_drewN | apply below_drew1) | exact HB.out))); rintro e w60 ⟨rfl, hb⟩; refine ⟨_, rfl, ?_⟩; have n0_ := Aside0.mk (below_step (by repeat (first | (with_reducible first | exact HB.out | apply below_alloc | apply pw_below_drewN | apply below_drew1) | exact HB.out)) hb); clear HB; have HB := n0_; clear n0_; (try clear hb); (try clear hb2); (try clear hk); (try clear hi)))
                go_ret
                exact ⟨by first | rfl | (simp [errW_none, errW_some] <;> rfl) | (simp only [← hji13]; first | rfl | (simp [errW_none, errW_some] <;> rfl)) | (simp [*, errW_none, errW_some] <;> rfl), by repeat (first | (with_reducible first | exact HB.out | apply below_alloc | apply pw_below_drewN | apply below_drew1) | exact HB.out)⟩
          · rw [if_neg c15] at H
            exact absurd H (by simp)
        · rw [if_neg c14] at H
          exact absurd H (by simp)

/-- THE ONE PURE STATEMENT of escutcheonlaw01_CoinLengths. -/
def escutcheonlaw01_CoinLengths.Pure : Prop := ∀ (l0 : List Int) (l1 : List Int), l0.length ≤ maxLen → (∀ y_ ∈ l0, (Lit.int .u8 y_).wf = true) → l1.length ≤ maxLen → (∀ y_ ∈ l1, (Lit.int .u8 y_).wf = true) → ∃ k, escutcheonlaw01_CoinLengths.f k l0 l1 = some true

end Go.Proofs.YtldfdofeecmhoaaDoor.PCoinLengths
