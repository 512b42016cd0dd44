/- HourShifts. -/
import Derived.Test.YtjmalnoehmgenaaDoorHouO
import Derived.Test.YtjmalnoehmgenaaDoorCodL
namespace Go.Abs.S
attribute [local go_sem] lguard aopO aop nxL aenv toAV tput aLoad aStore vcells aBin aNilI aUn aAlloc aBox aBuild aBSlice afill aConv isIntT aappZ aCap aArr aMM aMake aSlice bnd3 bnd aFldAddr aFld aIdxAddr aIdx aExt aLen aCopy aEq0 bAV aUb aapp aappQ agh acont List.getD_cons_zero List.getD_cons_succ List.set_cons_zero List.set_cons_succ List.getElem?_cons_zero List.getElem?_cons_succ List.length_cons List.length_nil List.map_cons List.map_nil ints_length if_true if_false Bool.false_eq_true true_and and_true eq_self ne_eq not_false_eq_true not_true_eq_false beq_self_eq_true Nat.zero_add Nat.add_zero Nat.mul_one Nat.zero_mul Int.toNat_natCast List.toList_toArray List.all_cons List.all_nil AV.one Value.oneCell' Bool.and_true Bool.true_and forall_const true_implies false_implies implies_true Option.map_some Option.map_none Option.isSome_some Option.isSome_none imp_self rdP_flat rdP_row splice_one ints_set ints_get List.append_nil List.cons_append List.nil_append List.getElem?_toArray List.drop_zero ints_drop ints_take List.take_of_length_le splice_all ints_one Option.some.injEq Option.getD_some List.length_replicate zArr List.map_replicate rep_ints splice_intsR List.length_set List.length_append List.flatten_replicate_singleton rep_slice rep_string rep_bool rep_iface List.replicate_zero if_pos if_neg List.mapM_cons List.mapM_nil Option.pure_def Option.bind_eq_bind Option.bind_some Bool.true_eq_false Bool.not_false Bool.not_true get_concat set_concat
open Go.Proofs
open Go.Abs.H
set_option linter.unusedVariables false
set_option linter.unusedSimpArgs false
set_option maxRecDepth 100000
set_option maxHeartbeats 4000000
def back5 (a b : Nat) : List Int := [((48 + a / 10 : Nat) : Int), ((48 + a % 10 : Nat) : Int), 58, ((48 + b / 10 : Nat) : Int), ((48 + b % 10 : Nat) : Int)]
def l25 (t : Mom) (c : Int) (a b : Nat) : List Int := (txt t).take 19 ++ c :: back5 a b
theorem l25_by (t : Mom) (c : Int) (a b : Nat) (hc : 0 ≤ c ∧ c ≤ 255) (ha : a < 24) (hb : b < 60) : By0 (l25 t c a b) := by
  intro x hx
  rcases List.mem_append.1 hx with h | h
  · exact txt_by t x (List.mem_of_mem_take h)
  · simp only [back5, List.mem_cons, List.not_mem_nil, or_false] at h
    rcases h with rfl | rfl | rfl | rfl | rfl | rfl <;> omega
theorem l25_len (t : Mom) (c : Int) (a b : Nat) : (l25 t c a b).length = 25 := by
  unfold l25 back5
  rw [List.length_append, List.length_take, txt_length]
  rfl
theorem l25_at (t : Mom) (c : Int) (a b : Nat) (i : Nat) : (l25 t c a b).getD (19 + i) 0 = (c :: back5 a b).getD i 0 := by
  unfold l25
  have h : ((txt t).take 19).length = 19 := by rw [List.length_take, txt_length]; rfl
  simp only [List.getD_eq_getElem?_getD]
  rw [List.getElem?_append_right (by omega), h, Nat.add_sub_cancel_left]
theorem shift_read (t : Mom) (ht : t.ok) (c : Int) (a b : Nat) (hc : c = 43 ∨ c = 45) (ha : a < 24) (hb : b < 60) (v : Int) (hv : v = if c = 43 then secs t - a * 3600 - b * 60 else secs t + a * 3600 + b * 60) (hr : tFirst ≤ v ∧ v ≤ tLast) : readP (strOf (l25 t c a b)) = (v, 0) := by
  have hby := l25_by t c a b (by omega) ha hb
  have hB : Begins (strOf (l25 t c a b)) t := begins_of hby t (c :: back5 a b) rfl
  have hs : (strOf (l25 t c a b)).size = 25 := by rw [str_size, l25_len]
  have f : ∀ i v, i < 6 → (c :: back5 a b).getD i 0 = v → bt (strOf (l25 t c a b)) (19 + i) = v := fun i v hi h => by rw [bt_str hby _ (by rw [l25_len]; omega), l25_at, h]
  have h19 := f 0 c (by omega) rfl
  have h20 := f 1 ((48 + a / 10 : Nat) : Int) (by omega) rfl
  have h21 := f 2 ((48 + a % 10 : Nat) : Int) (by omega) rfl
  have h22 := f 3 58 (by omega) rfl
  have h23 := f 4 ((48 + b / 10 : Nat) : Int) (by omega) rfl
  have h24 := f 5 ((48 + b % 10 : Nat) : Int) (by omega) rfl
  simp only [Nat.add_zero, Nat.reduceAdd] at h19 h20 h21 h22 h23 h24
  obtain ⟨s, hsd⟩ : ∃ s, strOf (l25 t c a b) = s := ⟨_, rfl⟩
  rw [hsd] at h19 h20 h21 h22 h23 h24 hB hs ⊢
  have n20 : n2 s 20 = a := by unfold n2; rw [h20, h21]; omega
  have n23 : n2 s 23 = b := by unfold n2; rw [h23, h24]; omega
  have hE : E25 s := by
    unfold E25 dg
    rw [h19, h20, h21, h22, h23, h24]
    omega
  have hF : Formed s := ⟨hB.d19, .inr ⟨hs, hE⟩⟩
  have hsh : secs t + shf s = v := by
    unfold shf
    rw [if_neg (by omega), h19, n20, n23, hv]
    split <;> omega
  unfold readP
  rw [if_neg (not_not_intro hF), if_neg (by rw [n20, n23]; omega), hB.mom ht, if_neg (not_not_intro ht), hsh, if_neg (by omega)]
theorem hourShifts_p (n : Int) (h0 m0 : Int) (hh : 0 ≤ h0 ∧ h0 ≤ 255) (hm : 0 ≤ m0 ∧ m0 ≤ 255) : PCall Tryd.prog glob 6 [iv n, .v (.int .u8 h0), .v (.int .u8 m0)] (.v (.bool true)) := by
  refine PCall.of ctx.nr (by (repeat (refine List.forall_mem_cons.2 (And.intro (by first | exact NR.v _ | exact NR.agg (NR.ints _ _) | exact NR.vsl (NR.ints _ _) | exact NR.vptr (NR.ints _ _) | assumption) ?_))); exact fun _ h => absurd h List.not_mem_nil) (NR.v _) ?_
  refine lcall6 (by simp) 0 (Nat.le_refl _) ?_
  unfold lc6
  simp only [List.length_cons, List.length_nil, Nat.reduceAdd, Nat.reduceSub, List.replicate_succ, List.replicate_zero, List.cons_append, List.nil_append]
  have aw := awake_p
  have w1 : IntKind.i64.wrap (tFirst + 100000) = -62167119200 := by unfold tFirst; decide
  have w2 : IntKind.i64.wrap (tLast - 100000) = 253402200799 := by unfold tLast; decide
  by_cases g1 : n < -62167119200
  · have d1 : decide (n < -62167119200) = true := by rw [decide_eq_true_eq]; omega
    repeat (first
      | (with_reducible refine lops_step fun K hK => ?_; simp (disch := first | omega | (simp only [go_sem, isRow, isFlat, Option.isSome_some]; done) | assumption | (simp only [ints_length, List.length_replicate, List.length_set, List.length_append, List.length_take, List.length_drop, List.length_cons, List.length_nil] <;> omega) | fail) only [go_sem, Nat.reduceAdd, Nat.reduceSub, reduceIte, Nat.reduceEqDiff, Int.reduceToNat, Int.reduceBEq, Int.reduceBNe, d1, w1, w2]; (try (first | (refine And.intro (fun _ => ?_) (fun h => absurd h (by decide))) | (refine And.intro (fun h => absurd h (by decide)) (fun _ => ?_)))); (repeat (with_reducible refine And.intro (by first | omega | rfl | assumption | decide) ?_)); (first | (refine hK _ _ ?_) | (refine ⟨_, rfl, hK _ _ ?_⟩) | (refine Or.inl (hK _ _ ?_)) | (refine ⟨_, _, Or.inl (aw.go _), (by first | exact ⟨[], (List.append_nil _).symm⟩ | exact ⟨_, rfl⟩), hK _ _ ?_⟩) | (refine ⟨_, _, Or.inl (aw.go _), hK _ _ ?_⟩) | (refine ⟨_, _, Or.inl (aw.go _).weakQ, hK _ _ ?_⟩) | (refine ⟨_, _, Or.inl (First_p.go _), (by first | exact ⟨[], (List.append_nil _).symm⟩ | exact ⟨_, rfl⟩), hK _ _ ?_⟩) | (refine ⟨_, _, Or.inl (First_p.go _), hK _ _ ?_⟩) | (refine ⟨_, _, Or.inl (First_p.go _).weakQ, hK _ _ ?_⟩) | (refine ⟨_, _, Or.inl (Last_p.go _), (by first | exact ⟨[], (List.append_nil _).symm⟩ | exact ⟨_, rfl⟩), hK _ _ ?_⟩) | (refine ⟨_, _, Or.inl (Last_p.go _), hK _ _ ?_⟩) | (refine ⟨_, _, Or.inl (Last_p.go _).weakQ, hK _ _ ?_⟩)); clear hK K)
      | (with_reducible refine lops_nil ?_)
      | (with_reducible refine lavc_reg ?_)
      | (with_reducible refine lavc_seq ?_)
      | (with_reducible refine lavc_block ?_)
      | (with_reducible refine lavc_skip ?_)
      | (with_reducible refine lavc_exit ?_)
      | (with_reducible refine lavc_ret ?_)
      | (with_reducible refine lavcR_round ?_)
      | (refine lavc_cond rfl (fun _ => ?_) (fun hc => absurd hc (by decide)))
      | (refine lavc_cond rfl (fun hc => absurd hc (by decide)) (fun _ => ?_))
      | (simp only [↓reduceIte, Nat.reduceEqDiff, reduceCtorEq]))
    refine And.intro (by simp) ?_
    simp (disch := first | omega | (simp only [go_sem, isRow, isFlat, Option.isSome_some]; done) | assumption | (simp only [ints_length, List.length_replicate, List.length_set, List.length_append, List.length_take, List.length_drop, List.length_cons, List.length_nil] <;> omega) | fail) only [go_sem, Nat.reduceAdd, Nat.reduceSub, reduceIte, Nat.reduceEqDiff, Int.reduceToNat, Int.reduceBEq, Int.reduceBNe, aret, aretL, aret1, aenv]
    (repeat (with_reducible refine And.intro (by first | omega | rfl | assumption | decide) ?_))
    exact end0 (NR.v _) rfl
  have d1 : decide (n < -62167119200) = false := by rw [decide_eq_false_iff_not]; omega
  by_cases g2 : 253402200799 < n
  · have d2 : decide (n > 253402200799) = true := by rw [decide_eq_true_eq]; omega
    repeat (first
      | (with_reducible refine lops_step fun K hK => ?_; simp (disch := first | omega | (simp only [go_sem, isRow, isFlat, Option.isSome_some]; done) | assumption | (simp only [ints_length, List.length_replicate, List.length_set, List.length_append, List.length_take, List.length_drop, List.length_cons, List.length_nil] <;> omega) | fail) only [go_sem, Nat.reduceAdd, Nat.reduceSub, reduceIte, Nat.reduceEqDiff, Int.reduceToNat, Int.reduceBEq, Int.reduceBNe, d1, d2, w1, w2]; (try (first | (refine And.intro (fun _ => ?_) (fun h => absurd h (by decide))) | (refine And.intro (fun h => absurd h (by decide)) (fun _ => ?_)))); (repeat (with_reducible refine And.intro (by first | omega | rfl | assumption | decide) ?_)); (first | (refine hK _ _ ?_) | (refine ⟨_, rfl, hK _ _ ?_⟩) | (refine Or.inl (hK _ _ ?_)) | (refine ⟨_, _, Or.inl (aw.go _), (by first | exact ⟨[], (List.append_nil _).symm⟩ | exact ⟨_, rfl⟩), hK _ _ ?_⟩) | (refine ⟨_, _, Or.inl (aw.go _), hK _ _ ?_⟩) | (refine ⟨_, _, Or.inl (aw.go _).weakQ, hK _ _ ?_⟩) | (refine ⟨_, _, Or.inl (First_p.go _), (by first | exact ⟨[], (List.append_nil _).symm⟩ | exact ⟨_, rfl⟩), hK _ _ ?_⟩) | (refine ⟨_, _, Or.inl (First_p.go _), hK _ _ ?_⟩) | (refine ⟨_, _, Or.inl (First_p.go _).weakQ, hK _ _ ?_⟩) | (refine ⟨_, _, Or.inl (Last_p.go _), (by first | exact ⟨[], (List.append_nil _).symm⟩ | exact ⟨_, rfl⟩), hK _ _ ?_⟩) | (refine ⟨_, _, Or.inl (Last_p.go _), hK _ _ ?_⟩) | (refine ⟨_, _, Or.inl (Last_p.go _).weakQ, hK _ _ ?_⟩)); clear hK K)
      | (with_reducible refine lops_nil ?_)
      | (with_reducible refine lavc_reg ?_)
      | (with_reducible refine lavc_seq ?_)
      | (with_reducible refine lavc_block ?_)
      | (with_reducible refine lavc_skip ?_)
      | (with_reducible refine lavc_exit ?_)
      | (with_reducible refine lavc_ret ?_)
      | (with_reducible refine lavcR_round ?_)
      | (refine lavc_cond rfl (fun _ => ?_) (fun hc => absurd hc (by decide)))
      | (refine lavc_cond rfl (fun hc => absurd hc (by decide)) (fun _ => ?_))
      | (simp only [↓reduceIte, Nat.reduceEqDiff, reduceCtorEq]))
    refine And.intro (by simp) ?_
    simp (disch := first | omega | (simp only [go_sem, isRow, isFlat, Option.isSome_some]; done) | assumption | (simp only [ints_length, List.length_replicate, List.length_set, List.length_append, List.length_take, List.length_drop, List.length_cons, List.length_nil] <;> omega) | fail) only [go_sem, Nat.reduceAdd, Nat.reduceSub, reduceIte, Nat.reduceEqDiff, Int.reduceToNat, Int.reduceBEq, Int.reduceBNe, aret, aretL, aret1, aenv]
    (repeat (with_reducible refine And.intro (by first | omega | rfl | assumption | decide) ?_))
    exact end0 (NR.v _) rfl
  have d2 : decide (n > 253402200799) = false := by rw [decide_eq_false_iff_not]; omega
  obtain ⟨h, rfl⟩ := Int.eq_ofNat_of_zero_le hh.1
  obtain ⟨m, rfl⟩ := Int.eq_ofNat_of_zero_le hm.1
  obtain ⟨t, ht, rfl⟩ := mom_of n (by unfold tFirst; omega) (by unfold tLast; omega)
  have tp := Text_p t ht
  have zt := txt_z t
  have e1 : (h : Int).tmod 24 = ((h % 24 : Nat) : Int) := tmodN h 24
  have e2 : (m : Int).tmod 60 = ((m % 60 : Nat) : Int) := tmodN m 60
  obtain ⟨a, ha⟩ : ∃ a, h % 24 = a := ⟨_, rfl⟩
  obtain ⟨b, hb⟩ : ∃ b, m % 60 = b := ⟨_, rfl⟩
  rw [ha] at e1
  rw [hb] at e2
  have ha24 : a < 24 := by omega
  have hb60 : b < 60 := by omega
  have u1 := i64n (a : Int) a rfl (by omega)
  have u2 := i64n (b : Int) b rfl (by omega)
  have q1 : (a : Int).tdiv 10 = ((a / 10 : Nat) : Int) := tdivN a 10
  have q2 : (a : Int).tmod 10 = ((a % 10 : Nat) : Int) := tmodN a 10
  have q3 : (b : Int).tdiv 10 = ((b / 10 : Nat) : Int) := tdivN b 10
  have q4 : (b : Int).tmod 10 = ((b % 10 : Nat) : Int) := tmodN b 10
  have r1 := i64n ((a / 10 : Nat) : Int) (a / 10) rfl (by omega)
  have r3 := i64n ((b / 10 : Nat) : Int) (b / 10) rfl (by omega)
  have s1 := i64n (48 + ((a / 10 : Nat) : Int)) (48 + a / 10) (by omega) (by omega)
  have s2 := i64n (48 + ((a % 10 : Nat) : Int)) (48 + a % 10) (by omega) (by omega)
  have s3 := i64n (48 + ((b / 10 : Nat) : Int)) (48 + b / 10) (by omega) (by omega)
  have s4 := i64n (48 + ((b % 10 : Nat) : Int)) (48 + b % 10) (by omega) (by omega)
  have k1 : IntKind.u8.wrap ((48 + a / 10 : Nat) : Int) = ((48 + a / 10 : Nat) : Int) := by rw [IntKind.wrap_u8]; omega
  have k2 : IntKind.u8.wrap ((48 + a % 10 : Nat) : Int) = ((48 + a % 10 : Nat) : Int) := by rw [IntKind.wrap_u8]; omega
  have k3 : IntKind.u8.wrap ((48 + b / 10 : Nat) : Int) = ((48 + b / 10 : Nat) : Int) := by rw [IntKind.wrap_u8]; omega
  have k4 : IntKind.u8.wrap ((48 + b % 10 : Nat) : Int) = ((48 + b % 10 : Nat) : Int) := by rw [IntKind.wrap_u8]; omega
  have bl : ∀ v w x y : Int, (((((List.replicate 5 (0 : Int)).set 0 v).set 1 w).set 2 58).set 3 x).set 4 y = [v, w, 58, x, y] := fun _ _ _ _ => rfl
  have x1 : (strOf (txt t)).extract 0 19 = strOf ((txt t).take 19) := by rw [ext_strOf]; rfl
  have hx1z : ((txt t).take 19).length = 19 := by rw [List.length_take, txt_length]; rfl
  have c43 : ({ data := #[43] } : ByteArray) = strOf [43] := rfl
  have c45 : ({ data := #[45] } : ByteArray) = strOf [45] := rfl
  have j43 : strOf ((txt t).take 19) ++ strOf [43] ++ strOf (back5 a b) = strOf (l25 t 43 a b) := by rw [strOf_append, strOf_append, List.append_assoc]; rfl
  have j45 : strOf ((txt t).take 19) ++ strOf [45] ++ strOf (back5 a b) = strOf (l25 t 45 a b) := by rw [strOf_append, strOf_append, List.append_assoc]; rfl
  have hb5 : strOf [((48 + a / 10 : Nat) : Int), ((48 + a % 10 : Nat) : Int), 58, ((48 + b / 10 : Nat) : Int), ((48 + b % 10 : Nat) : Int)] = strOf (back5 a b) := rfl
  have R43 := Read_p (strOf (l25 t 43 a b)) (by rw [str_size, l25_len]; decide)
  have R45 := Read_p (strOf (l25 t 45 a b)) (by rw [str_size, l25_len]; decide)
  rw [shift_read t ht 43 a b (.inl rfl) ha24 hb60 (secs t - a * 3600 - b * 60) rfl (by unfold tFirst tLast; omega)] at R43
  rw [shift_read t ht 45 a b (.inr rfl) ha24 hb60 (secs t + a * 3600 + b * 60) rfl (by unfold tFirst tLast; omega)] at R45
  have y1 := i64z ((a : Int) * 3600) (by omega)
  have y2 := i64z ((b : Int) * 60) (by omega)
  have y3 := i64z (secs t - (a : Int) * 3600) (by omega)
  have y4 := i64z (secs t - (a : Int) * 3600 - (b : Int) * 60) (by omega)
  have y5 := i64z (secs t + (a : Int) * 3600) (by omega)
  have y6 := i64z (secs t + (a : Int) * 3600 + (b : Int) * 60) (by omega)
  have z0 : ((0 : Int) == 0) = true := rfl
  have z1 : ((0 : Int) != 0) = false := rfl
  have bq : ∀ z : Int, (z == z) = true := fun z => by simp
  have o1 : (strOf ((txt t).take 19)).size = 19 := by rw [str_size, hx1z]
  have o2 : ∀ c : Int, (strOf [c]).size = 1 := fun c => by rw [str_size]; rfl
  have o3 : (strOf (back5 a b)).size = 5 := by rw [str_size]; rfl
  have o4 : ∀ c : Int, (strOf ((txt t).take 19) ++ strOf [c]).size = 20 := fun c => by rw [strOf_append, str_size, List.length_append, hx1z]; rfl
  obtain ⟨A, hA⟩ : ∃ A, strOf (txt t) = A := ⟨_, rfl⟩
  rw [hA] at tp zt x1
  obtain ⟨N, hN⟩ : ∃ N, secs t = N := ⟨_, rfl⟩
  rw [hN] at tp R43 R45 y3 y4 y5 y6 d1 d2 ⊢
  repeat (first
    | (with_reducible refine lops_step fun K hK => ?_; simp (disch := first | omega | (simp only [go_sem, isRow, isFlat, Option.isSome_some]; done) | assumption | (simp only [ints_length, List.length_replicate, List.length_set, List.length_append, List.length_take, List.length_drop, List.length_cons, List.length_nil] <;> omega) | fail) only [go_sem, Nat.reduceAdd, Nat.reduceSub, reduceIte, Nat.reduceEqDiff, Int.reduceToNat, Int.reduceBEq, Int.reduceBNe, d1, d2, w1, w2, e1, e2, u1, u2, q1, q2, q3, q4, r1, r3, s1, s2, s3, s4, k1, k2, k3, k4, bl, hb5, x1, c43, c45, o1, o2, o3, o4, j43, j45, y1, y2, y3, y4, y5, y6, z0, z1, bq, zt]; (try (first | (refine And.intro (fun _ => ?_) (fun h => absurd h (by decide))) | (refine And.intro (fun h => absurd h (by decide)) (fun _ => ?_)))); (repeat (with_reducible refine And.intro (by first | omega | rfl | assumption | decide) ?_)); (first | (refine hK _ _ ?_) | (refine ⟨_, rfl, hK _ _ ?_⟩) | (refine Or.inl (hK _ _ ?_)) | (refine ⟨_, _, Or.inl (aw.go _), (by first | exact ⟨[], (List.append_nil _).symm⟩ | exact ⟨_, rfl⟩), hK _ _ ?_⟩) | (refine ⟨_, _, Or.inl (aw.go _), hK _ _ ?_⟩) | (refine ⟨_, _, Or.inl (aw.go _).weakQ, hK _ _ ?_⟩) | (refine ⟨_, _, Or.inl (First_p.go _), (by first | exact ⟨[], (List.append_nil _).symm⟩ | exact ⟨_, rfl⟩), hK _ _ ?_⟩) | (refine ⟨_, _, Or.inl (First_p.go _), hK _ _ ?_⟩) | (refine ⟨_, _, Or.inl (First_p.go _).weakQ, hK _ _ ?_⟩) | (refine ⟨_, _, Or.inl (Last_p.go _), (by first | exact ⟨[], (List.append_nil _).symm⟩ | exact ⟨_, rfl⟩), hK _ _ ?_⟩) | (refine ⟨_, _, Or.inl (Last_p.go _), hK _ _ ?_⟩) | (refine ⟨_, _, Or.inl (Last_p.go _).weakQ, hK _ _ ?_⟩) | (refine ⟨_, _, Or.inl (tp.go _), (by first | exact ⟨[], (List.append_nil _).symm⟩ | exact ⟨_, rfl⟩), hK _ _ ?_⟩) | (refine ⟨_, _, Or.inl (tp.go _), hK _ _ ?_⟩) | (refine ⟨_, _, Or.inl (tp.go _).weakQ, hK _ _ ?_⟩) | (refine ⟨_, _, Or.inl (R43.go _), (by first | exact ⟨[], (List.append_nil _).symm⟩ | exact ⟨_, rfl⟩), hK _ _ ?_⟩) | (refine ⟨_, _, Or.inl (R43.go _), hK _ _ ?_⟩) | (refine ⟨_, _, Or.inl (R43.go _).weakQ, hK _ _ ?_⟩) | (refine ⟨_, _, Or.inl (R45.go _), (by first | exact ⟨[], (List.append_nil _).symm⟩ | exact ⟨_, rfl⟩), hK _ _ ?_⟩) | (refine ⟨_, _, Or.inl (R45.go _), hK _ _ ?_⟩) | (refine ⟨_, _, Or.inl (R45.go _).weakQ, hK _ _ ?_⟩)); clear hK K)
    | (with_reducible refine lops_nil ?_)
    | (with_reducible refine lavc_reg ?_)
    | (with_reducible refine lavc_seq ?_)
    | (with_reducible refine lavc_block ?_)
    | (with_reducible refine lavc_skip ?_)
    | (with_reducible refine lavc_exit ?_)
    | (with_reducible refine lavc_ret ?_)
    | (with_reducible refine lavcR_round ?_)
    | (refine lavc_cond rfl (fun _ => ?_) (fun hc => absurd hc (by decide)))
    | (refine lavc_cond rfl (fun hc => absurd hc (by decide)) (fun _ => ?_))
    | (simp only [↓reduceIte, Nat.reduceEqDiff, reduceCtorEq]))
  refine And.intro (by simp) ?_
  simp (disch := first | omega | (simp only [go_sem, isRow, isFlat, Option.isSome_some]; done) | assumption | (simp only [ints_length, List.length_replicate, List.length_set, List.length_append, List.length_take, List.length_drop, List.length_cons, List.length_nil] <;> omega) | fail) only [go_sem, Nat.reduceAdd, Nat.reduceSub, reduceIte, Nat.reduceEqDiff, Int.reduceToNat, Int.reduceBEq, Int.reduceBNe, aret, aretL, aret1, aenv]
  (repeat (with_reducible refine And.intro (by first | omega | rfl | assumption | decide) ?_))
  exact end0 (NR.v _) rfl
end Go.Abs.S
