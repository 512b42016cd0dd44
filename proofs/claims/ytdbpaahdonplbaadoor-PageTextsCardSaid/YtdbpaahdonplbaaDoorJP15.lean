/- The document's Rune; written by gen_rune.py. The document's Right, has; written by gen_refv.py. The document's Hex of one small byte, Quoted. PageTexts, the law. -/
import Derived.Test.YtdbpaahdonplbaaDoorJP3
import Derived.Test.YtdbpaahdonplbaaDoorJP10
import Derived.Test.YtdbpaahdonplbaaDoorJP4
import Derived.Test.YtdbpaahdonplbaaDoorJP8
import Derived.Test.YtdbpaahdonplbaaDoorJP11
import Derived.Test.YtdbpaahdonplbaaDoorJP5
import Derived.Test.YtdbpaahdonplbaaDoorJP7
import Derived.Test.YtdbpaahdonplbaaDoorJP6
namespace Go.Abs.S
attribute [local go_sem] lguard aopO aop aenv toAV tput aLoad aStore vcells aBin aNilI aUn aAlloc aBox aBuild aBSlice afill aConv isIntT aappZ aCap aArr aMM aMake aSlice bnd3 bnd aFldAddr aFld aIdxAddr aIdx aExt aLen aCopy aEq0 bAV aUb aapp aappQ agh acont List.getD_cons_zero List.getD_cons_succ List.set_cons_zero List.set_cons_succ List.getElem?_cons_zero List.getElem?_cons_succ List.length_cons List.length_nil List.map_cons List.map_nil ints_length if_true if_false Bool.false_eq_true true_and and_true eq_self ne_eq not_false_eq_true not_true_eq_false beq_self_eq_true Nat.zero_add Nat.add_zero Nat.mul_one Nat.zero_mul Int.toNat_natCast List.toList_toArray List.all_cons List.all_nil AV.one Value.oneCell' Bool.and_true Bool.true_and forall_const true_implies false_implies implies_true Option.map_some Option.map_none Option.isSome_some Option.isSome_none imp_self rdP_flat rdP_row splice_one ints_set ints_get List.append_nil List.cons_append List.nil_append List.getElem?_toArray List.drop_zero ints_drop ints_take List.take_of_length_le splice_all ints_one Option.some.injEq Option.getD_some List.length_replicate zArr List.map_replicate rep_ints splice_intsR List.length_set List.length_append List.flatten_replicate_singleton rep_slice rep_string rep_bool rep_iface List.replicate_zero if_pos if_neg List.mapM_cons List.mapM_nil Option.pure_def Option.bind_eq_bind Option.bind_some Bool.true_eq_false Bool.not_false Bool.not_true get_concat set_concat
open Go.Proofs
set_option linter.unusedVariables false
set_option linter.unusedSimpArgs false
set_option maxRecDepth 100000
set_option maxHeartbeats 8000000
theorem rune_p (l : List UInt8) (hl : l.length ≤ 9223372036854770000) (a : Nat) (ha : a < l.length) : PCall Tryd.prog glob 28 [.v (.string (bs l)), .v (.int .i64 a)] (.v (.int .i64 (runeL (l.drop a)))) := by
  refine PCall.of ctx.nr nrs (NR.v _) ?_
  refine lcall28 (by simp) 0 (Nat.le_refl _) ?_
  unfold lc28
  refine I1 tt ⟨?_⟩
  unfold runeL
  rw [bw_drop, bw_drop, bw_drop, bw_drop, List.length_drop, Nat.add_zero]
  have b0 := bw_lt l a
  have b1 := bw_lt l (a + 1)
  have b2 := bw_lt l (a + 2)
  have b3 := bw_lt l (a + 3)
  obtain ⟨c, hc⟩ : ∃ c, bw l a = c := ⟨_, rfl⟩
  obtain ⟨d1, hd1⟩ : ∃ c, bw l (a + 1) = c := ⟨_, rfl⟩
  obtain ⟨d2, hd2⟩ : ∃ c, bw l (a + 2) = c := ⟨_, rfl⟩
  obtain ⟨d3, hd3⟩ : ∃ c, bw l (a + 3) = c := ⟨_, rfl⟩
  have g0 : (l.getD a 0).toNat = c := hc
  have g1 : (l.getD (a + 1) 0).toNat = d1 := hd1
  have g2 : (l.getD (a + 2) 0).toNat = d2 := hd2
  have g3 : (l.getD (a + 3) 0).toNat = d3 := hd3
  rw [hc] at b0 ⊢
  rw [hd1] at b1 ⊢
  rw [hd2] at b2 ⊢
  rw [hd3] at b3 ⊢
  clear hc hd1 hd2 hd3
  have w0 := i64n (c : Int) c rfl (by omega)
  have w1 := i64n (d1 : Int) d1 rfl (by omega)
  have w2 := i64n (d2 : Int) d2 rfl (by omega)
  have w3 := i64n (d3 : Int) d3 rfl (by omega)
  have i1 := i64n ((a : Int) + 1) (a + 1) (by omega) (by omega)
  have i2 := i64n ((a : Int) + 2) (a + 2) (by omega) (by omega)
  have i3 := i64n ((a : Int) + 3) (a + 3) (by omega) (by omega)
  have j1 : IntKind.i64.wrap ((1 : Int) + 1) = 2 := by decide
  have j2 : IntKind.i64.wrap ((2 : Int) + 1) = 3 := by decide
  have j3 : IntKind.i64.wrap ((3 : Int) + 1) = 4 := by decide
  by_cases c0 : c < 128
  · rw [if_pos c0]
    have q0 : decide ((c : Int) < 128) = true := by rw [decide_eq_true_eq]; omega
    refine G1 F4 (an g0 (an w0 (an q0 tt))) tt tt tt ⟨?_⟩
    refine R1 tt ⟨?_⟩
    exact end0 (NR.v _) rfl
  rw [if_neg c0]
  have q0 : decide ((c : Int) < 128) = false := by rw [decide_eq_false_iff_not]; omega
  by_cases c1 : 194 ≤ c ∧ c < 224
  · rw [if_pos c1]
    have p194 : decide ((c : Int) ≥ 194) = true := by rw [decide_eq_true_eq]; omega
    have p224 : decide ((c : Int) < 224) = true := by rw [decide_eq_true_eq]; omega
    have p224b : decide ((c : Int) ≥ 224) = false := by rw [decide_eq_false_iff_not]; omega
    have p240 : decide ((c : Int) < 240) = true := by rw [decide_eq_true_eq]; omega
    have p240b : decide ((c : Int) ≥ 240) = false := by rw [decide_eq_false_iff_not]; omega
    have p245 : decide ((c : Int) < 245) = true := by rw [decide_eq_true_eq]; omega
    have e0 := i64n ((c : Int) - 192) (c - 192) (by omega) (by omega)
    obtain ⟨x0, hx0⟩ : ∃ x, c - 192 = x := ⟨_, rfl⟩
    rw [hx0] at e0 ⊢
    have hb : x0 < 64 := by omega
    by_cases hin : 1 < l.length - a
    case neg =>
      rw [if_neg (fun h => hin h.1)]
      have qe : decide (((a + 1 : Nat) : Int) ≥ (l.length : Int)) = true := by rw [decide_eq_true_eq]; omega
      refine G1 F4 (an g0 (an w0 (an q0 (an p194 (an p224 (an p240 (an p245 (an p224b (an p240b (an e0 (an i1 (an i2 (an i3 (an qe tt)))))))))))))) tt tt tt ⟨?_⟩
      refine R1 tt ⟨?_⟩
      exact end0 (NR.v _) rfl
    have qe : decide (((a + 1 : Nat) : Int) ≥ (l.length : Int)) = false := by rw [decide_eq_false_iff_not]; omega
    by_cases o1 : okc d1
    case neg =>
      rw [if_neg (fun h => o1 h.2.1)]
      unfold okc at o1
      by_cases u1 : d1 < 128
      · have r1 : decide ((d1 : Int) < 128) = true := by rw [decide_eq_true_eq]; omega
        refine G1 F4 (an g0 (an w0 (an q0 (an p194 (an p224 (an p240 (an p245 (an p224b (an p240b (an e0 (an i1 (an i2 (an i3 (an qe tt)))))))))))))) tt tt tt ⟨?_⟩
        refine lavc_rounds 3 ?_
        refine G1 F4 (an g0 (an w0 (an q0 (an p194 (an p224 (an p240 (an p245 (an p224b (an p240b (an e0 (an i1 (an i2 (an i3 (an j1 (an j2 (an j3 (an qe (an g1 (an w1 (an r1 tt)))))))))))))))))))) tt tt tt ⟨?_⟩
        refine R1 tt ⟨?_⟩
        exact end0 (NR.v _) rfl
      · have r1 : decide ((d1 : Int) < 128) = false := by rw [decide_eq_false_iff_not]; omega
        have s1 : decide ((d1 : Int) ≥ 192) = true := by rw [decide_eq_true_eq]; omega
        refine G1 F4 (an g0 (an w0 (an q0 (an p194 (an p224 (an p240 (an p245 (an p224b (an p240b (an e0 (an i1 (an i2 (an i3 (an qe tt)))))))))))))) tt tt tt ⟨?_⟩
        refine lavc_rounds 3 ?_
        refine G1 F4 (an g0 (an w0 (an q0 (an p194 (an p224 (an p240 (an p245 (an p224b (an p240b (an e0 (an i1 (an i2 (an i3 (an j1 (an j2 (an j3 (an qe (an g1 (an w1 (an r1 (an s1 tt))))))))))))))))))))) tt tt tt ⟨?_⟩
        refine R1 tt ⟨?_⟩
        exact end0 (NR.v _) rfl
    have o1' := o1
    unfold okc at o1'
    have ok1a : decide ((d1 : Int) < 128) = false := by rw [decide_eq_false_iff_not]; omega
    have ok1b : decide ((d1 : Int) ≥ 192) = false := by rw [decide_eq_false_iff_not]; omega
    have y1 := i64n ((x0 : Int) * 64) (x0 * 64) (by omega) (by omega)
    obtain ⟨m1, hm1⟩ : ∃ x, x0 * 64 = x := ⟨_, rfl⟩
    rw [hm1] at y1 ⊢
    have z1 := i64n ((m1 : Int) + (d1 : Int)) (m1 + d1) (by omega) (by omega)
    have v1 := i64n (((m1 + d1 : Nat) : Int) - 128) (m1 + (d1 - 128)) (by omega) (by omega)
    obtain ⟨x1, hx1⟩ : ∃ x, m1 + (d1 - 128) = x := ⟨_, rfl⟩
    rw [hx1] at v1 ⊢
    obtain ⟨n1, hn1⟩ : ∃ x, m1 + d1 = x := ⟨_, rfl⟩
    rw [hn1] at z1 v1
    by_cases hf : fitv 128 x1
    · rw [if_pos ⟨hin, o1, hf⟩]
      unfold fitv at hf
      have f1 : decide ((x1 : Int) < 128) = false := by rw [decide_eq_false_iff_not]; omega
      have f2 : decide ((x1 : Int) > 1114111) = false := by rw [decide_eq_false_iff_not]; omega
      by_cases h3 : 55296 ≤ x1
      · exfalso; omega
      · have f3 : decide ((x1 : Int) ≥ 55296) = false := by rw [decide_eq_false_iff_not]; omega
        refine G1 F4 (an g0 (an w0 (an q0 (an p194 (an p224 (an p240 (an p245 (an p224b (an p240b (an e0 (an i1 (an i2 (an i3 (an qe tt)))))))))))))) tt tt tt ⟨?_⟩
        refine lavc_rounds 3 ?_
        refine G1 F4 (an g0 (an w0 (an q0 (an p194 (an p224 (an p240 (an p245 (an p224b (an p240b (an e0 (an i1 (an i2 (an i3 (an j1 (an j2 (an j3 (an qe (an g1 (an w1 (an y1 (an z1 (an v1 (an ok1a (an ok1b (an f1 (an f2 (an f3 tt))))))))))))))))))))))))))) tt tt tt ⟨?_⟩
        refine R1 tt ⟨?_⟩
        exact end0 (NR.v _) rfl
    · rw [if_neg (fun h => hf h.2.2)]
      unfold fitv at hf
      by_cases h1 : x1 < 128
      · exfalso; omega
      have f1 : decide ((x1 : Int) < 128) = false := by rw [decide_eq_false_iff_not]; omega
      by_cases h2 : x1 > 1114111
      · exfalso; omega
      exfalso; omega
  rw [if_neg c1]
  by_cases c2 : 224 ≤ c ∧ c < 240
  · rw [if_pos c2]
    have p194 : decide ((c : Int) ≥ 194) = true := by rw [decide_eq_true_eq]; omega
    have p224 : decide ((c : Int) < 224) = false := by rw [decide_eq_false_iff_not]; omega
    have p224b : decide ((c : Int) ≥ 224) = true := by rw [decide_eq_true_eq]; omega
    have p240 : decide ((c : Int) < 240) = true := by rw [decide_eq_true_eq]; omega
    have p240b : decide ((c : Int) ≥ 240) = false := by rw [decide_eq_false_iff_not]; omega
    have p245 : decide ((c : Int) < 245) = true := by rw [decide_eq_true_eq]; omega
    have e0 := i64n ((c : Int) - 224) (c - 224) (by omega) (by omega)
    obtain ⟨x0, hx0⟩ : ∃ x, c - 224 = x := ⟨_, rfl⟩
    rw [hx0] at e0 ⊢
    have hb : x0 < 64 := by omega
    by_cases hin : 2 < l.length - a
    case neg =>
      rw [if_neg (fun h => hin h.1)]
      have qe : decide (((a + 2 : Nat) : Int) ≥ (l.length : Int)) = true := by rw [decide_eq_true_eq]; omega
      refine G1 F4 (an g0 (an w0 (an q0 (an p194 (an p224 (an p240 (an p245 (an p224b (an p240b (an e0 (an i1 (an i2 (an i3 (an qe tt)))))))))))))) tt tt tt ⟨?_⟩
      refine R1 tt ⟨?_⟩
      exact end0 (NR.v _) rfl
    have qe : decide (((a + 2 : Nat) : Int) ≥ (l.length : Int)) = false := by rw [decide_eq_false_iff_not]; omega
    by_cases o1 : okc d1
    case neg =>
      rw [if_neg (fun h => o1 h.2.1)]
      unfold okc at o1
      by_cases u1 : d1 < 128
      · have r1 : decide ((d1 : Int) < 128) = true := by rw [decide_eq_true_eq]; omega
        refine G1 F4 (an g0 (an w0 (an q0 (an p194 (an p224 (an p240 (an p245 (an p224b (an p240b (an e0 (an i1 (an i2 (an i3 (an qe tt)))))))))))))) tt tt tt ⟨?_⟩
        refine lavc_rounds 4 ?_
        refine G1 F4 (an g0 (an w0 (an q0 (an p194 (an p224 (an p240 (an p245 (an p224b (an p240b (an e0 (an i1 (an i2 (an i3 (an j1 (an j2 (an j3 (an qe (an g1 (an w1 (an r1 tt)))))))))))))))))))) tt tt tt ⟨?_⟩
        refine R1 tt ⟨?_⟩
        exact end0 (NR.v _) rfl
      · have r1 : decide ((d1 : Int) < 128) = false := by rw [decide_eq_false_iff_not]; omega
        have s1 : decide ((d1 : Int) ≥ 192) = true := by rw [decide_eq_true_eq]; omega
        refine G1 F4 (an g0 (an w0 (an q0 (an p194 (an p224 (an p240 (an p245 (an p224b (an p240b (an e0 (an i1 (an i2 (an i3 (an qe tt)))))))))))))) tt tt tt ⟨?_⟩
        refine lavc_rounds 4 ?_
        refine G1 F4 (an g0 (an w0 (an q0 (an p194 (an p224 (an p240 (an p245 (an p224b (an p240b (an e0 (an i1 (an i2 (an i3 (an j1 (an j2 (an j3 (an qe (an g1 (an w1 (an r1 (an s1 tt))))))))))))))))))))) tt tt tt ⟨?_⟩
        refine R1 tt ⟨?_⟩
        exact end0 (NR.v _) rfl
    have o1' := o1
    unfold okc at o1'
    have ok1a : decide ((d1 : Int) < 128) = false := by rw [decide_eq_false_iff_not]; omega
    have ok1b : decide ((d1 : Int) ≥ 192) = false := by rw [decide_eq_false_iff_not]; omega
    have y1 := i64n ((x0 : Int) * 64) (x0 * 64) (by omega) (by omega)
    obtain ⟨m1, hm1⟩ : ∃ x, x0 * 64 = x := ⟨_, rfl⟩
    rw [hm1] at y1 ⊢
    have z1 := i64n ((m1 : Int) + (d1 : Int)) (m1 + d1) (by omega) (by omega)
    have v1 := i64n (((m1 + d1 : Nat) : Int) - 128) (m1 + (d1 - 128)) (by omega) (by omega)
    obtain ⟨x1, hx1⟩ : ∃ x, m1 + (d1 - 128) = x := ⟨_, rfl⟩
    rw [hx1] at v1 ⊢
    obtain ⟨n1, hn1⟩ : ∃ x, m1 + d1 = x := ⟨_, rfl⟩
    rw [hn1] at z1 v1
    by_cases o2 : okc d2
    case neg =>
      rw [if_neg (fun h => o2 h.2.2.1)]
      unfold okc at o2
      by_cases u2 : d2 < 128
      · have r2 : decide ((d2 : Int) < 128) = true := by rw [decide_eq_true_eq]; omega
        refine G1 F4 (an g0 (an w0 (an q0 (an p194 (an p224 (an p240 (an p245 (an p224b (an p240b (an e0 (an i1 (an i2 (an i3 (an qe tt)))))))))))))) tt tt tt ⟨?_⟩
        refine lavc_rounds 4 ?_
        refine G1 F4 (an g0 (an w0 (an q0 (an p194 (an p224 (an p240 (an p245 (an p224b (an p240b (an e0 (an i1 (an i2 (an i3 (an j1 (an j2 (an j3 (an qe (an g1 (an w1 (an g2 (an w2 (an y1 (an z1 (an v1 (an ok1a (an ok1b (an r2 tt))))))))))))))))))))))))))) tt tt tt ⟨?_⟩
        refine R1 tt ⟨?_⟩
        exact end0 (NR.v _) rfl
      · have r2 : decide ((d2 : Int) < 128) = false := by rw [decide_eq_false_iff_not]; omega
        have s2 : decide ((d2 : Int) ≥ 192) = true := by rw [decide_eq_true_eq]; omega
        refine G1 F4 (an g0 (an w0 (an q0 (an p194 (an p224 (an p240 (an p245 (an p224b (an p240b (an e0 (an i1 (an i2 (an i3 (an qe tt)))))))))))))) tt tt tt ⟨?_⟩
        refine lavc_rounds 4 ?_
        refine G1 F4 (an g0 (an w0 (an q0 (an p194 (an p224 (an p240 (an p245 (an p224b (an p240b (an e0 (an i1 (an i2 (an i3 (an j1 (an j2 (an j3 (an qe (an g1 (an w1 (an g2 (an w2 (an y1 (an z1 (an v1 (an ok1a (an ok1b (an r2 (an s2 tt)))))))))))))))))))))))))))) tt tt tt ⟨?_⟩
        refine R1 tt ⟨?_⟩
        exact end0 (NR.v _) rfl
    have o2' := o2
    unfold okc at o2'
    have ok2a : decide ((d2 : Int) < 128) = false := by rw [decide_eq_false_iff_not]; omega
    have ok2b : decide ((d2 : Int) ≥ 192) = false := by rw [decide_eq_false_iff_not]; omega
    have y2 := i64n ((x1 : Int) * 64) (x1 * 64) (by omega) (by omega)
    obtain ⟨m2, hm2⟩ : ∃ x, x1 * 64 = x := ⟨_, rfl⟩
    rw [hm2] at y2 ⊢
    have z2 := i64n ((m2 : Int) + (d2 : Int)) (m2 + d2) (by omega) (by omega)
    have v2 := i64n (((m2 + d2 : Nat) : Int) - 128) (m2 + (d2 - 128)) (by omega) (by omega)
    obtain ⟨x2, hx2⟩ : ∃ x, m2 + (d2 - 128) = x := ⟨_, rfl⟩
    rw [hx2] at v2 ⊢
    obtain ⟨n2, hn2⟩ : ∃ x, m2 + d2 = x := ⟨_, rfl⟩
    rw [hn2] at z2 v2
    by_cases hf : fitv 2048 x2
    · rw [if_pos ⟨hin, o1, o2, hf⟩]
      unfold fitv at hf
      have f1 : decide ((x2 : Int) < 2048) = false := by rw [decide_eq_false_iff_not]; omega
      have f2 : decide ((x2 : Int) > 1114111) = false := by rw [decide_eq_false_iff_not]; omega
      by_cases h3 : 55296 ≤ x2
      · have f3 : decide ((x2 : Int) ≥ 55296) = true := by rw [decide_eq_true_eq]; omega
        have f4 : decide ((x2 : Int) ≤ 57343) = false := by rw [decide_eq_false_iff_not]; omega
        refine G1 F4 (an g0 (an w0 (an q0 (an p194 (an p224 (an p240 (an p245 (an p224b (an p240b (an e0 (an i1 (an i2 (an i3 (an qe tt)))))))))))))) tt tt tt ⟨?_⟩
        refine lavc_rounds 4 ?_
        refine G1 F4 (an g0 (an w0 (an q0 (an p194 (an p224 (an p240 (an p245 (an p224b (an p240b (an e0 (an i1 (an i2 (an i3 (an j1 (an j2 (an j3 (an qe (an g1 (an w1 (an g2 (an w2 (an y1 (an z1 (an v1 (an ok1a (an ok1b (an y2 (an z2 (an v2 (an ok2a (an ok2b (an f1 (an f2 (an f3 (an f4 tt))))))))))))))))))))))))))))))))))) tt tt tt ⟨?_⟩
        refine R1 tt ⟨?_⟩
        exact end0 (NR.v _) rfl
      · have f3 : decide ((x2 : Int) ≥ 55296) = false := by rw [decide_eq_false_iff_not]; omega
        refine G1 F4 (an g0 (an w0 (an q0 (an p194 (an p224 (an p240 (an p245 (an p224b (an p240b (an e0 (an i1 (an i2 (an i3 (an qe tt)))))))))))))) tt tt tt ⟨?_⟩
        refine lavc_rounds 4 ?_
        refine G1 F4 (an g0 (an w0 (an q0 (an p194 (an p224 (an p240 (an p245 (an p224b (an p240b (an e0 (an i1 (an i2 (an i3 (an j1 (an j2 (an j3 (an qe (an g1 (an w1 (an g2 (an w2 (an y1 (an z1 (an v1 (an ok1a (an ok1b (an y2 (an z2 (an v2 (an ok2a (an ok2b (an f1 (an f2 (an f3 tt)))))))))))))))))))))))))))))))))) tt tt tt ⟨?_⟩
        refine R1 tt ⟨?_⟩
        exact end0 (NR.v _) rfl
    · rw [if_neg (fun h => hf h.2.2.2)]
      unfold fitv at hf
      by_cases h1 : x2 < 2048
      · have f1 : decide ((x2 : Int) < 2048) = true := by rw [decide_eq_true_eq]; omega
        refine G1 F4 (an g0 (an w0 (an q0 (an p194 (an p224 (an p240 (an p245 (an p224b (an p240b (an e0 (an i1 (an i2 (an i3 (an qe tt)))))))))))))) tt tt tt ⟨?_⟩
        refine lavc_rounds 4 ?_
        refine G1 F4 (an g0 (an w0 (an q0 (an p194 (an p224 (an p240 (an p245 (an p224b (an p240b (an e0 (an i1 (an i2 (an i3 (an j1 (an j2 (an j3 (an qe (an g1 (an w1 (an g2 (an w2 (an y1 (an z1 (an v1 (an ok1a (an ok1b (an y2 (an z2 (an v2 (an ok2a (an ok2b (an f1 tt)))))))))))))))))))))))))))))))) tt tt tt ⟨?_⟩
        refine R1 tt ⟨?_⟩
        exact end0 (NR.v _) rfl
      have f1 : decide ((x2 : Int) < 2048) = false := by rw [decide_eq_false_iff_not]; omega
      by_cases h2 : x2 > 1114111
      · exfalso; omega
      have f2 : decide ((x2 : Int) > 1114111) = false := by rw [decide_eq_false_iff_not]; omega
      have f3 : decide ((x2 : Int) ≥ 55296) = true := by rw [decide_eq_true_eq]; omega
      have f4 : decide ((x2 : Int) ≤ 57343) = true := by rw [decide_eq_true_eq]; omega
      refine G1 F4 (an g0 (an w0 (an q0 (an p194 (an p224 (an p240 (an p245 (an p224b (an p240b (an e0 (an i1 (an i2 (an i3 (an qe tt)))))))))))))) tt tt tt ⟨?_⟩
      refine lavc_rounds 4 ?_
      refine G1 F4 (an g0 (an w0 (an q0 (an p194 (an p224 (an p240 (an p245 (an p224b (an p240b (an e0 (an i1 (an i2 (an i3 (an j1 (an j2 (an j3 (an qe (an g1 (an w1 (an g2 (an w2 (an y1 (an z1 (an v1 (an ok1a (an ok1b (an y2 (an z2 (an v2 (an ok2a (an ok2b (an f1 (an f2 (an f3 (an f4 tt))))))))))))))))))))))))))))))))))) tt tt tt ⟨?_⟩
      refine R1 tt ⟨?_⟩
      exact end0 (NR.v _) rfl
  rw [if_neg c2]
  by_cases c3 : 240 ≤ c ∧ c < 245
  · rw [if_pos c3]
    have p194 : decide ((c : Int) ≥ 194) = true := by rw [decide_eq_true_eq]; omega
    have p224 : decide ((c : Int) < 224) = false := by rw [decide_eq_false_iff_not]; omega
    have p224b : decide ((c : Int) ≥ 224) = true := by rw [decide_eq_true_eq]; omega
    have p240 : decide ((c : Int) < 240) = false := by rw [decide_eq_false_iff_not]; omega
    have p240b : decide ((c : Int) ≥ 240) = true := by rw [decide_eq_true_eq]; omega
    have p245 : decide ((c : Int) < 245) = true := by rw [decide_eq_true_eq]; omega
    have e0 := i64n ((c : Int) - 240) (c - 240) (by omega) (by omega)
    obtain ⟨x0, hx0⟩ : ∃ x, c - 240 = x := ⟨_, rfl⟩
    rw [hx0] at e0 ⊢
    have hb : x0 < 64 := by omega
    by_cases hin : 3 < l.length - a
    case neg =>
      rw [if_neg (fun h => hin h.1)]
      have qe : decide (((a + 3 : Nat) : Int) ≥ (l.length : Int)) = true := by rw [decide_eq_true_eq]; omega
      refine G1 F4 (an g0 (an w0 (an q0 (an p194 (an p224 (an p240 (an p245 (an p224b (an p240b (an e0 (an i1 (an i2 (an i3 (an qe tt)))))))))))))) tt tt tt ⟨?_⟩
      refine R1 tt ⟨?_⟩
      exact end0 (NR.v _) rfl
    have qe : decide (((a + 3 : Nat) : Int) ≥ (l.length : Int)) = false := by rw [decide_eq_false_iff_not]; omega
    by_cases o1 : okc d1
    case neg =>
      rw [if_neg (fun h => o1 h.2.1)]
      unfold okc at o1
      by_cases u1 : d1 < 128
      · have r1 : decide ((d1 : Int) < 128) = true := by rw [decide_eq_true_eq]; omega
        refine G1 F4 (an g0 (an w0 (an q0 (an p194 (an p224 (an p240 (an p245 (an p224b (an p240b (an e0 (an i1 (an i2 (an i3 (an qe tt)))))))))))))) tt tt tt ⟨?_⟩
        refine lavc_rounds 5 ?_
        refine G1 F4 (an g0 (an w0 (an q0 (an p194 (an p224 (an p240 (an p245 (an p224b (an p240b (an e0 (an i1 (an i2 (an i3 (an j1 (an j2 (an j3 (an qe (an g1 (an w1 (an r1 tt)))))))))))))))))))) tt tt tt ⟨?_⟩
        refine R1 tt ⟨?_⟩
        exact end0 (NR.v _) rfl
      · have r1 : decide ((d1 : Int) < 128) = false := by rw [decide_eq_false_iff_not]; omega
        have s1 : decide ((d1 : Int) ≥ 192) = true := by rw [decide_eq_true_eq]; omega
        refine G1 F4 (an g0 (an w0 (an q0 (an p194 (an p224 (an p240 (an p245 (an p224b (an p240b (an e0 (an i1 (an i2 (an i3 (an qe tt)))))))))))))) tt tt tt ⟨?_⟩
        refine lavc_rounds 5 ?_
        refine G1 F4 (an g0 (an w0 (an q0 (an p194 (an p224 (an p240 (an p245 (an p224b (an p240b (an e0 (an i1 (an i2 (an i3 (an j1 (an j2 (an j3 (an qe (an g1 (an w1 (an r1 (an s1 tt))))))))))))))))))))) tt tt tt ⟨?_⟩
        refine R1 tt ⟨?_⟩
        exact end0 (NR.v _) rfl
    have o1' := o1
    unfold okc at o1'
    have ok1a : decide ((d1 : Int) < 128) = false := by rw [decide_eq_false_iff_not]; omega
    have ok1b : decide ((d1 : Int) ≥ 192) = false := by rw [decide_eq_false_iff_not]; omega
    have y1 := i64n ((x0 : Int) * 64) (x0 * 64) (by omega) (by omega)
    obtain ⟨m1, hm1⟩ : ∃ x, x0 * 64 = x := ⟨_, rfl⟩
    rw [hm1] at y1 ⊢
    have z1 := i64n ((m1 : Int) + (d1 : Int)) (m1 + d1) (by omega) (by omega)
    have v1 := i64n (((m1 + d1 : Nat) : Int) - 128) (m1 + (d1 - 128)) (by omega) (by omega)
    obtain ⟨x1, hx1⟩ : ∃ x, m1 + (d1 - 128) = x := ⟨_, rfl⟩
    rw [hx1] at v1 ⊢
    obtain ⟨n1, hn1⟩ : ∃ x, m1 + d1 = x := ⟨_, rfl⟩
    rw [hn1] at z1 v1
    by_cases o2 : okc d2
    case neg =>
      rw [if_neg (fun h => o2 h.2.2.1)]
      unfold okc at o2
      by_cases u2 : d2 < 128
      · have r2 : decide ((d2 : Int) < 128) = true := by rw [decide_eq_true_eq]; omega
        refine G1 F4 (an g0 (an w0 (an q0 (an p194 (an p224 (an p240 (an p245 (an p224b (an p240b (an e0 (an i1 (an i2 (an i3 (an qe tt)))))))))))))) tt tt tt ⟨?_⟩
        refine lavc_rounds 5 ?_
        refine G1 F4 (an g0 (an w0 (an q0 (an p194 (an p224 (an p240 (an p245 (an p224b (an p240b (an e0 (an i1 (an i2 (an i3 (an j1 (an j2 (an j3 (an qe (an g1 (an w1 (an g2 (an w2 (an y1 (an z1 (an v1 (an ok1a (an ok1b (an r2 tt))))))))))))))))))))))))))) tt tt tt ⟨?_⟩
        refine R1 tt ⟨?_⟩
        exact end0 (NR.v _) rfl
      · have r2 : decide ((d2 : Int) < 128) = false := by rw [decide_eq_false_iff_not]; omega
        have s2 : decide ((d2 : Int) ≥ 192) = true := by rw [decide_eq_true_eq]; omega
        refine G1 F4 (an g0 (an w0 (an q0 (an p194 (an p224 (an p240 (an p245 (an p224b (an p240b (an e0 (an i1 (an i2 (an i3 (an qe tt)))))))))))))) tt tt tt ⟨?_⟩
        refine lavc_rounds 5 ?_
        refine G1 F4 (an g0 (an w0 (an q0 (an p194 (an p224 (an p240 (an p245 (an p224b (an p240b (an e0 (an i1 (an i2 (an i3 (an j1 (an j2 (an j3 (an qe (an g1 (an w1 (an g2 (an w2 (an y1 (an z1 (an v1 (an ok1a (an ok1b (an r2 (an s2 tt)))))))))))))))))))))))))))) tt tt tt ⟨?_⟩
        refine R1 tt ⟨?_⟩
        exact end0 (NR.v _) rfl
    have o2' := o2
    unfold okc at o2'
    have ok2a : decide ((d2 : Int) < 128) = false := by rw [decide_eq_false_iff_not]; omega
    have ok2b : decide ((d2 : Int) ≥ 192) = false := by rw [decide_eq_false_iff_not]; omega
    have y2 := i64n ((x1 : Int) * 64) (x1 * 64) (by omega) (by omega)
    obtain ⟨m2, hm2⟩ : ∃ x, x1 * 64 = x := ⟨_, rfl⟩
    rw [hm2] at y2 ⊢
    have z2 := i64n ((m2 : Int) + (d2 : Int)) (m2 + d2) (by omega) (by omega)
    have v2 := i64n (((m2 + d2 : Nat) : Int) - 128) (m2 + (d2 - 128)) (by omega) (by omega)
    obtain ⟨x2, hx2⟩ : ∃ x, m2 + (d2 - 128) = x := ⟨_, rfl⟩
    rw [hx2] at v2 ⊢
    obtain ⟨n2, hn2⟩ : ∃ x, m2 + d2 = x := ⟨_, rfl⟩
    rw [hn2] at z2 v2
    by_cases o3 : okc d3
    case neg =>
      rw [if_neg (fun h => o3 h.2.2.2.1)]
      unfold okc at o3
      by_cases u3 : d3 < 128
      · have r3 : decide ((d3 : Int) < 128) = true := by rw [decide_eq_true_eq]; omega
        refine G1 F4 (an g0 (an w0 (an q0 (an p194 (an p224 (an p240 (an p245 (an p224b (an p240b (an e0 (an i1 (an i2 (an i3 (an qe tt)))))))))))))) tt tt tt ⟨?_⟩
        refine lavc_rounds 5 ?_
        repeat (first
          | (with_reducible refine lops_step fun K hK => ?_; simp (disch := first | exact dch | fail) only [go_sem, Nat.reduceAdd, Nat.reduceSub, reduceIte, Nat.reduceEqDiff, Int.reduceToNat, Int.reduceBEq, Int.reduceBNe, g0, w0, q0, p194, p224, p240, p245, p224b, p240b, e0, i1, i2, i3, j1, j2, j3, qe, g1, w1, g2, w2, g3, w3, y1, z1, v1, ok1a, ok1b, y2, z2, v2, ok2a, ok2b, r3]; (try (first | (refine And.intro (fun _ => ?_) (fun h => absurd h (by decide))) | (refine And.intro (fun h => absurd h (by decide)) (fun _ => ?_)))); (repeat (with_reducible refine And.intro acl ?_)); (first | (refine hK _ _ ?_) | (refine ⟨_, rfl, hK _ _ ?_⟩) | (refine Or.inl (hK _ _ ?_))); clear hK K)
          | (with_reducible refine lops_nil ?_)
          | (with_reducible first | refine lavc_reg ?_ | refine lavc_seq ?_ | refine lavc_block ?_ | refine lavc_skip ?_ | refine lavc_exit ?_ | refine lavc_ret ?_ | refine lavcR_round ?_)
          | (refine lavc_cond rfl (fun _ => ?_) (fun hc => absurd hc (by decide)))
          | (refine lavc_cond rfl (fun hc => absurd hc (by decide)) (fun _ => ?_))
          | (simp only [↓reduceIte, Nat.reduceEqDiff, reduceCtorEq]))
        refine R1 tt ⟨?_⟩
        exact end0 (NR.v _) rfl
      · have r3 : decide ((d3 : Int) < 128) = false := by rw [decide_eq_false_iff_not]; omega
        have s3 : decide ((d3 : Int) ≥ 192) = true := by rw [decide_eq_true_eq]; omega
        refine G1 F4 (an g0 (an w0 (an q0 (an p194 (an p224 (an p240 (an p245 (an p224b (an p240b (an e0 (an i1 (an i2 (an i3 (an qe tt)))))))))))))) tt tt tt ⟨?_⟩
        refine lavc_rounds 5 ?_
        repeat (first
          | (with_reducible refine lops_step fun K hK => ?_; simp (disch := first | exact dch | fail) only [go_sem, Nat.reduceAdd, Nat.reduceSub, reduceIte, Nat.reduceEqDiff, Int.reduceToNat, Int.reduceBEq, Int.reduceBNe, g0, w0, q0, p194, p224, p240, p245, p224b, p240b, e0, i1, i2, i3, j1, j2, j3, qe, g1, w1, g2, w2, g3, w3, y1, z1, v1, ok1a, ok1b, y2, z2, v2, ok2a, ok2b, r3, s3]; (try (first | (refine And.intro (fun _ => ?_) (fun h => absurd h (by decide))) | (refine And.intro (fun h => absurd h (by decide)) (fun _ => ?_)))); (repeat (with_reducible refine And.intro acl ?_)); (first | (refine hK _ _ ?_) | (refine ⟨_, rfl, hK _ _ ?_⟩) | (refine Or.inl (hK _ _ ?_))); clear hK K)
          | (with_reducible refine lops_nil ?_)
          | (with_reducible first | refine lavc_reg ?_ | refine lavc_seq ?_ | refine lavc_block ?_ | refine lavc_skip ?_ | refine lavc_exit ?_ | refine lavc_ret ?_ | refine lavcR_round ?_)
          | (refine lavc_cond rfl (fun _ => ?_) (fun hc => absurd hc (by decide)))
          | (refine lavc_cond rfl (fun hc => absurd hc (by decide)) (fun _ => ?_))
          | (simp only [↓reduceIte, Nat.reduceEqDiff, reduceCtorEq]))
        refine R1 tt ⟨?_⟩
        exact end0 (NR.v _) rfl
    have o3' := o3
    unfold okc at o3'
    have ok3a : decide ((d3 : Int) < 128) = false := by rw [decide_eq_false_iff_not]; omega
    have ok3b : decide ((d3 : Int) ≥ 192) = false := by rw [decide_eq_false_iff_not]; omega
    have y3 := i64n ((x2 : Int) * 64) (x2 * 64) (by omega) (by omega)
    obtain ⟨m3, hm3⟩ : ∃ x, x2 * 64 = x := ⟨_, rfl⟩
    rw [hm3] at y3 ⊢
    have z3 := i64n ((m3 : Int) + (d3 : Int)) (m3 + d3) (by omega) (by omega)
    have v3 := i64n (((m3 + d3 : Nat) : Int) - 128) (m3 + (d3 - 128)) (by omega) (by omega)
    obtain ⟨x3, hx3⟩ : ∃ x, m3 + (d3 - 128) = x := ⟨_, rfl⟩
    rw [hx3] at v3 ⊢
    obtain ⟨n3, hn3⟩ : ∃ x, m3 + d3 = x := ⟨_, rfl⟩
    rw [hn3] at z3 v3
    by_cases hf : fitv 65536 x3
    · rw [if_pos ⟨hin, o1, o2, o3, hf⟩]
      unfold fitv at hf
      have f1 : decide ((x3 : Int) < 65536) = false := by rw [decide_eq_false_iff_not]; omega
      have f2 : decide ((x3 : Int) > 1114111) = false := by rw [decide_eq_false_iff_not]; omega
      by_cases h3 : 55296 ≤ x3
      · have f3 : decide ((x3 : Int) ≥ 55296) = true := by rw [decide_eq_true_eq]; omega
        have f4 : decide ((x3 : Int) ≤ 57343) = false := by rw [decide_eq_false_iff_not]; omega
        refine G1 F4 (an g0 (an w0 (an q0 (an p194 (an p224 (an p240 (an p245 (an p224b (an p240b (an e0 (an i1 (an i2 (an i3 (an qe tt)))))))))))))) tt tt tt ⟨?_⟩
        refine lavc_rounds 5 ?_
        refine G1 F4 (an g0 (an w0 (an q0 (an p194 (an p224 (an p240 (an p245 (an p224b (an p240b (an e0 (an i1 (an i2 (an i3 (an j1 (an j2 (an j3 (an qe (an g1 (an w1 (an g2 (an w2 (an g3 (an w3 (an y1 (an z1 (an v1 (an ok1a (an ok1b (an y2 (an z2 (an v2 (an ok2a (an ok2b (an y3 (an z3 (an v3 (an ok3a (an ok3b (an f1 (an f2 (an f3 (an f4 tt)))))))))))))))))))))))))))))))))))))))))) tt tt tt ⟨?_⟩
        refine R1 tt ⟨?_⟩
        exact end0 (NR.v _) rfl
      · exfalso; omega
    · rw [if_neg (fun h => hf h.2.2.2.2)]
      unfold fitv at hf
      by_cases h1 : x3 < 65536
      · have f1 : decide ((x3 : Int) < 65536) = true := by rw [decide_eq_true_eq]; omega
        refine G1 F4 (an g0 (an w0 (an q0 (an p194 (an p224 (an p240 (an p245 (an p224b (an p240b (an e0 (an i1 (an i2 (an i3 (an qe tt)))))))))))))) tt tt tt ⟨?_⟩
        refine lavc_rounds 5 ?_
        refine G1 F4 (an g0 (an w0 (an q0 (an p194 (an p224 (an p240 (an p245 (an p224b (an p240b (an e0 (an i1 (an i2 (an i3 (an j1 (an j2 (an j3 (an qe (an g1 (an w1 (an g2 (an w2 (an g3 (an w3 (an y1 (an z1 (an v1 (an ok1a (an ok1b (an y2 (an z2 (an v2 (an ok2a (an ok2b (an y3 (an z3 (an v3 (an ok3a (an ok3b (an f1 tt))))))))))))))))))))))))))))))))))))))) tt tt tt ⟨?_⟩
        refine R1 tt ⟨?_⟩
        exact end0 (NR.v _) rfl
      have f1 : decide ((x3 : Int) < 65536) = false := by rw [decide_eq_false_iff_not]; omega
      by_cases h2 : x3 > 1114111
      · have f2 : decide ((x3 : Int) > 1114111) = true := by rw [decide_eq_true_eq]; omega
        refine G1 F4 (an g0 (an w0 (an q0 (an p194 (an p224 (an p240 (an p245 (an p224b (an p240b (an e0 (an i1 (an i2 (an i3 (an qe tt)))))))))))))) tt tt tt ⟨?_⟩
        refine lavc_rounds 5 ?_
        refine G1 F4 (an g0 (an w0 (an q0 (an p194 (an p224 (an p240 (an p245 (an p224b (an p240b (an e0 (an i1 (an i2 (an i3 (an j1 (an j2 (an j3 (an qe (an g1 (an w1 (an g2 (an w2 (an g3 (an w3 (an y1 (an z1 (an v1 (an ok1a (an ok1b (an y2 (an z2 (an v2 (an ok2a (an ok2b (an y3 (an z3 (an v3 (an ok3a (an ok3b (an f1 (an f2 tt)))))))))))))))))))))))))))))))))))))))) tt tt tt ⟨?_⟩
        refine R1 tt ⟨?_⟩
        exact end0 (NR.v _) rfl
      exfalso; omega
  rw [if_neg c3]
  by_cases l194 : c < 194
  · have p194 : decide ((c : Int) ≥ 194) = false := by rw [decide_eq_false_iff_not]; omega
    have p224b : decide ((c : Int) ≥ 224) = false := by rw [decide_eq_false_iff_not]; omega
    have p240b : decide ((c : Int) ≥ 240) = false := by rw [decide_eq_false_iff_not]; omega
    refine G1 F4 (an g0 (an w0 (an q0 (an p194 (an p224b (an p240b tt)))))) tt tt tt ⟨?_⟩
    refine R1 tt ⟨?_⟩
    exact end0 (NR.v _) rfl
  · have p194 : decide ((c : Int) ≥ 194) = true := by rw [decide_eq_true_eq]; omega
    have p224b : decide ((c : Int) ≥ 224) = true := by rw [decide_eq_true_eq]; omega
    have p240b : decide ((c : Int) ≥ 240) = true := by rw [decide_eq_true_eq]; omega
    have p224 : decide ((c : Int) < 224) = false := by rw [decide_eq_false_iff_not]; omega
    have p240 : decide ((c : Int) < 240) = false := by rw [decide_eq_false_iff_not]; omega
    have p245 : decide ((c : Int) < 245) = false := by rw [decide_eq_false_iff_not]; omega
    refine G1 F4 (an g0 (an w0 (an q0 (an p194 (an p224 (an p240 (an p245 (an p224b (an p240b tt))))))))) tt tt tt ⟨?_⟩
    refine R1 tt ⟨?_⟩
    exact end0 (NR.v _) rfl
end Go.Abs.S
namespace Go.Abs.S
attribute [local go_sem] lguard aopO aop aenv toAV tput aLoad aStore vcells aBin aNilI aUn aAlloc aBox aBuild aBSlice afill aConv isIntT aappZ aCap aArr aMM aMake aSlice bnd3 bnd aFldAddr aFld aIdxAddr aIdx aExt aLen aCopy aEq0 bAV aUb aapp aappQ agh acont List.getD_cons_zero List.getD_cons_succ List.set_cons_zero List.set_cons_succ List.getElem?_cons_zero List.getElem?_cons_succ List.length_cons List.length_nil List.map_cons List.map_nil ints_length if_true if_false Bool.false_eq_true true_and and_true eq_self ne_eq not_false_eq_true not_true_eq_false beq_self_eq_true Nat.zero_add Nat.add_zero Nat.mul_one Nat.zero_mul Int.toNat_natCast List.toList_toArray List.all_cons List.all_nil AV.one Value.oneCell' Bool.and_true Bool.true_and forall_const true_implies false_implies implies_true Option.map_some Option.map_none Option.isSome_some Option.isSome_none imp_self rdP_flat rdP_row splice_one ints_set ints_get List.append_nil List.cons_append List.nil_append List.getElem?_toArray List.drop_zero ints_drop ints_take List.take_of_length_le splice_all ints_one Option.some.injEq Option.getD_some List.length_replicate zArr List.map_replicate rep_ints splice_intsR List.length_set List.length_append List.flatten_replicate_singleton rep_slice rep_string rep_bool rep_iface List.replicate_zero if_pos if_neg List.mapM_cons List.mapM_nil Option.pure_def Option.bind_eq_bind Option.bind_some Bool.true_eq_false Bool.not_false Bool.not_true get_concat set_concat
open Go.Proofs
set_option linter.unusedVariables false
set_option linter.unusedSimpArgs false
set_option maxRecDepth 100000
set_option maxHeartbeats 8000000
theorem right_p (l : List UInt8) (hl : l.length ≤ 9223372036854770000) : PCall Tryd.prog glob 14 [.v (.string (bs l))] (.v (.bool (rightL l))) := by
  refine PCall.of ctx.nr nrs (NR.v _) ?_
  refine lcall14 (by simp) 0 (Nat.le_refl _) ?_
  unfold lc14
  refine I1 tt ⟨?_⟩
  obtain ⟨V, hV⟩ : ∃ V, rightL l = V := ⟨_, rfl⟩
  rw [hV]
  refine G1 F4 tt tt tt tt ⟨?_⟩
  refine lavc_loopM ms14_0 (fun m (k : Nat) => m + k = l.length ∧ rightL (l.drop k) = V) (fun k => [(3, .v (.int .i64 k))]) (fun _ => []) l.length 0 ⟨by omega, by rw [List.drop_zero]; exact hV⟩ ?_ rfl ?_
  · try unfold ms14_0
    refine A1 tt ⟨?_⟩
    rfl
  rintro m k ⟨hk, hi⟩
  try unfold ms14_0
  refine M1 tt ⟨?_⟩
  refine G1 F1 tt tt tt tt ⟨?_⟩
  refine cnd rfl (fun hc => ?_) (fun hc => ?_)
  · have hkl : k < l.length := by omega
    have hne : l.drop k ≠ [] := fun h => by
      have := congrArg List.length h
      rw [List.length_drop, List.length_nil] at this
      omega
    have rp := rune_p l hl k hkl
    have hle := rune_le (l.drop k) hne
    rw [List.length_drop] at hle
    rw [rightL_step _ hne, List.drop_drop] at hi
    obtain ⟨n, hn⟩ : ∃ n, runeL (l.drop k) = n := ⟨_, rfl⟩
    rw [hn] at rp hle hi
    by_cases h0 : n = 0
    · subst h0
      rw [if_pos rfl] at hi
      refine G1 F4 tt (an rp.go tt) tt tt ⟨?_⟩
      refine R1 tt ⟨?_⟩
      exact end0 (NR.v _) (by rw [← hi])
    · rw [if_neg h0] at hi
      have q0 : (((n : Int) : Int) == 0) = false := by rw [beq_eq_false_iff_ne, ne_eq]; omega
      have e3 := i64n ((k : Int) + n) (k + n) (by omega) (by omega)
      refine G1 F4 (an q0 (an e3 tt)) (an rp.go tt) tt tt ⟨?_⟩
      refine ⟨m - n, k + n, by omega, ⟨by omega, hi⟩, ?_, (by first | rfl | trivial)⟩
      try unfold ms14_0
      exact A0 tt
  · have hk2 : k = l.length := by omega
    rw [hk2, List.drop_length] at hi
    refine G1 F4 tt tt tt tt ⟨?_⟩
    refine R1 tt ⟨?_⟩
    exact end0 (NR.v _) (by rw [← hi]; rfl)
theorem rights_p (t : ByteArray) (h : t.size ≤ 9223372036854770000) : PCall Tryd.prog glob 14 [stA t] (.v (.bool (rightL (bl t)))) := right_p (bl t) (by have e : (bl t).length = t.size := Array.length_toList; omega)
end Go.Abs.S
namespace Go.Abs.S
attribute [local go_sem] lguard aopO aop aenv toAV tput aLoad aStore vcells aBin aNilI aUn aAlloc aBox aBuild aBSlice afill aConv isIntT aappZ aCap aArr aMM aMake aSlice bnd3 bnd aFldAddr aFld aIdxAddr aIdx aExt aLen aCopy aEq0 bAV aUb aapp aappQ agh acont List.getD_cons_zero List.getD_cons_succ List.set_cons_zero List.set_cons_succ List.getElem?_cons_zero List.getElem?_cons_succ List.length_cons List.length_nil List.map_cons List.map_nil ints_length if_true if_false Bool.false_eq_true true_and and_true eq_self ne_eq not_false_eq_true not_true_eq_false beq_self_eq_true Nat.zero_add Nat.add_zero Nat.mul_one Nat.zero_mul Int.toNat_natCast List.toList_toArray List.all_cons List.all_nil AV.one Value.oneCell' Bool.and_true Bool.true_and forall_const true_implies false_implies implies_true Option.map_some Option.map_none Option.isSome_some Option.isSome_none imp_self rdP_flat rdP_row splice_one ints_set ints_get List.append_nil List.cons_append List.nil_append List.getElem?_toArray List.drop_zero ints_drop ints_take List.take_of_length_le splice_all ints_one Option.some.injEq Option.getD_some List.length_replicate zArr List.map_replicate rep_ints splice_intsR List.length_set List.length_append List.flatten_replicate_singleton rep_slice rep_string rep_bool rep_iface List.replicate_zero if_pos if_neg List.mapM_cons List.mapM_nil Option.pure_def Option.bind_eq_bind Option.bind_some Bool.true_eq_false Bool.not_false Bool.not_true get_concat set_concat
open Go.Proofs
set_option linter.unusedVariables false
set_option linter.unusedSimpArgs false
set_option maxRecDepth 100000
set_option maxHeartbeats 8000000
theorem digit_p (n : Nat) (h : n < 16) : PCall Tryd.prog glob 45 [.v (.int .i64 n)] (.v (.int .u8 ((hx n).toNat : Int))) := by
  refine PCall.of ctx.nr nrs (NR.v _) ?_
  refine lcall45 (by simp) 0 (Nat.le_refl _) ?_
  unfold lc45
  refine I1 tt ⟨?_⟩
  have hc : ∀ n : Nat, n < 16 → ((hx n).toNat : Int) = if n < 10 then 48 + (n : Int) else 87 + (n : Int) := by decide
  have hn := hc n h
  by_cases h10 : n < 10
  · rw [if_pos h10] at hn
    have q : decide ((n : Int) < 10) = true := by rw [decide_eq_true_eq]; omega
    have e1 := i64n (48 + (n : Int)) (48 + n) (by omega) (by omega)
    have e2 : IntKind.u8.wrap ((48 + n : Nat) : Int) = ((hx n).toNat : Int) := by rw [IntKind.wrap_u8, hn]; omega
    refine G1 F4 (an q (an e1 (an e2 tt))) tt tt tt ⟨?_⟩
    refine R1 tt ⟨?_⟩
    exact end0 (NR.v _) rfl
  · rw [if_neg h10] at hn
    have q : decide ((n : Int) < 10) = false := by rw [decide_eq_false_iff_not]; omega
    have e1 := i64n (97 + (n : Int)) (97 + n) (by omega) (by omega)
    have e3 := i64n (((97 + n : Nat) : Int) - 10) (87 + n) (by omega) (by omega)
    have e2 : IntKind.u8.wrap ((87 + n : Nat) : Int) = ((hx n).toNat : Int) := by rw [IntKind.wrap_u8, hn]; omega
    refine G1 F4 (an q (an e1 (an e2 (an e3 tt)))) tt tt tt ⟨?_⟩
    refine R1 tt ⟨?_⟩
    exact end0 (NR.v _) rfl
theorem rhex_p (c : Nat) (hc : c < 32) (cx : Option Nat) (hcx : NR (.vsl 1 (ints .u8 [(c : Int)]) cx)) : PCall Tryd.prog glob 32 [.vsl 1 (ints .u8 [(c : Int)]) cx] (.v (.string (bs [hx (c / 16), hx (c % 16)]))) := by
  refine PCall.of ctx.nr (List.forall_mem_cons.2 ⟨hcx, fun _ h => absurd h List.not_mem_nil⟩) (NR.v _) ?_
  refine lcall32 (by simp) 0 (Nat.le_refl _) ?_
  unfold lc32
  refine I1 tt ⟨?_⟩
  have d1 := digit_p (c / 16) (by omega)
  have d2 := digit_p (c % 16) (by omega)
  have w0 := i64n (c : Int) c rfl (by omega)
  have t1 : ((c : Nat) : Int).tdiv 16 = ((c / 16 : Nat) : Int) := rfl
  have t2 : ((c : Nat) : Int).tmod 16 = ((c % 16 : Nat) : Int) := rfl
  have w1 := i64n ((c / 16 : Nat) : Int) (c / 16) rfl (by omega)
  have w2 := i64n ((c % 16 : Nat) : Int) (c % 16) rfl (by omega)
  have i1 : IntKind.i64.wrap (0 + 1) = 1 := by decide
  obtain ⟨a, ha⟩ : ∃ a, c / 16 = a := ⟨_, rfl⟩
  obtain ⟨b, hb⟩ : ∃ a, c % 16 = a := ⟨_, rfl⟩
  rw [ha] at d1 t1 w1 ⊢
  rw [hb] at d2 t2 w2 ⊢
  have es := str_two (hx a) (hx b)
  have e2 : [AV.v (.int .u8 ((hx a).toNat : Int)), AV.v (.int .u8 ((hx b).toNat : Int))] = ints .u8 [((hx a).toNat : Int), ((hx b).toNat : Int)] := rfl
  refine G1 F4 tt tt tt tt ⟨?_⟩
  refine lavc_rounds 2 ?_
  repeat (first
    | (with_reducible refine lops_step fun K hK => ?_; simp (disch := first | exact dch | fail) only [go_sem, Nat.reduceAdd, Nat.reduceSub, reduceIte, Nat.reduceEqDiff, Int.reduceToNat, Int.reduceBEq, Int.reduceBNe, w0, t1, t2, w1, w2, i1, splice, List.take_succ_cons, List.take_zero, List.drop_succ_cons, List.drop_zero, List.drop_nil, List.cons_append, List.nil_append, List.append_nil, List.length_cons, List.length_nil, List.replicate_succ, List.replicate_zero, List.flatten_cons, List.flatten_nil, Nat.reduceMul, Nat.reduceAdd, Nat.reduceLeDiff, List.set_cons_zero, List.set_cons_succ, e2, es]; (try (first | (refine And.intro (fun _ => ?_) (fun h => absurd h (by decide))) | (refine And.intro (fun h => absurd h (by decide)) (fun _ => ?_)))); (repeat (with_reducible refine And.intro acl ?_)); (first | (refine hK _ _ ?_) | (refine ⟨_, rfl, hK _ _ ?_⟩) | (refine Or.inl (hK _ _ ?_)) | (refine ⟨_, _, Or.inl (d1.go _), (by first | exact ⟨[], (List.append_nil _).symm⟩ | exact ⟨_, rfl⟩), hK _ _ ?_⟩) | (refine ⟨_, _, Or.inl (d1.go _), hK _ _ ?_⟩) | (refine ⟨_, _, Or.inl (d1.go _).weakQ, hK _ _ ?_⟩) | (refine ⟨_, _, Or.inl (d2.go _), (by first | exact ⟨[], (List.append_nil _).symm⟩ | exact ⟨_, rfl⟩), hK _ _ ?_⟩) | (refine ⟨_, _, Or.inl (d2.go _), hK _ _ ?_⟩) | (refine ⟨_, _, Or.inl (d2.go _).weakQ, hK _ _ ?_⟩)); clear hK K)
    | (with_reducible refine lops_nil ?_)
    | (with_reducible first | refine lavc_reg ?_ | refine lavc_seq ?_ | refine lavc_block ?_ | refine lavc_skip ?_ | refine lavc_exit ?_ | refine lavc_ret ?_ | refine lavcR_round ?_)
    | (refine lavc_cond rfl (fun _ => ?_) (fun hc => absurd hc (by decide)))
    | (refine lavc_cond rfl (fun hc => absurd hc (by decide)) (fun _ => ?_))
    | (simp only [↓reduceIte, Nat.reduceEqDiff, reduceCtorEq]))
  refine R1 tt ⟨?_⟩
  exact end0 (NR.v _) rfl
theorem rquoted_p (l : List UInt8) (hl : l.length ≤ 1000000000) : PCall Tryd.prog glob 16 [.v (.string (bs l))] (.v (.string (bs (quoL l)))) := by
  refine PCall.of ctx.nr nrs (NR.v _) ?_
  refine lcall16 (by simp) 0 (Nat.le_refl _) ?_
  unfold lc16
  refine I1 tt ⟨?_⟩
  obtain ⟨V, hV⟩ : ∃ V, quoL l = V := ⟨_, rfl⟩
  have hV2 : V = 34 :: quoB (l.take l.length) ++ [34] := by rw [List.take_length, ← hV]; rfl
  rw [hV]
  have a34 : (⟨#[34]⟩ : ByteArray) = bs [34] := rfl
  have a92 : (⟨#[92]⟩ : ByteArray) = bs [92] := rfl
  have a00 : (⟨#[92, 117, 48, 48]⟩ : ByteArray) = bs [92, 117, 48, 48] := rfl
  refine G1 F1 tt tt tt tt ⟨?_⟩
  refine lavc_loopM ms16_0 (fun m (x : Nat × List UInt8) => m + x.1 = l.length ∧ x.2 = 34 :: quoB (l.take x.1)) (fun x => [(4, .v (.int .i64 x.1)), (3, .v (.string (bs x.2)))]) (fun _ => []) l.length (0, [34]) ⟨by show l.length + 0 = _; omega, rfl⟩ ?_ rfl ?_
  · refine ALe.mk ?_
    simp only [ms16_0, putAll, blank, List.foldl_cons, List.foldl_nil, List.set_cons_succ, List.set_cons_zero, List.cons_append, List.nil_append, ALe0, true_or, or_true, and_true, true_and, eq_self, reduceCtorEq, false_or]
    try exact ⟨rfl, rfl⟩
  rintro m ⟨k, acc⟩ ⟨hk, hi⟩
  simp only at hk hi ⊢
  try unfold ms16_0
  refine M1 tt ⟨?_⟩
  have hql := (quoB_len (l.take k)).2
  rw [List.length_take] at hql
  have hacc : acc.length ≤ 6 * l.length + 1 := by
    rw [hi, List.length_cons]
    omega
  have ba := fun m : List UInt8 => bs_append acc m
  refine G1 F1 tt tt tt tt ⟨?_⟩
  refine cnd rfl (fun hc => ?_) (fun hc => ?_)
  · have hkl : k < l.length := by omega
    have e3 := i64n ((k : Int) + 1) (k + 1) (by omega) (by omega)
    have hst := quoB_take l k hkl
    have hsl : List.take (k + 1 - k) (List.drop k l) = [l.getD k 0] := by
      rw [show k + 1 - k = 1 by omega, List.drop_eq_getElem_cons hkl, List.getD_eq_getElem?_getD, List.getElem?_eq_getElem hkl]
      rfl
    obtain ⟨c, hc⟩ : ∃ c, l.getD k 0 = c := ⟨_, rfl⟩
    rw [hc] at hst hsl
    have hn1 : ∀ A : List UInt8, A = acc ++ esc1 c → A = 34 :: quoB (l.take (k + 1)) := fun A h => by rw [h, hi, hst]; rfl
    by_cases k1 : c.toNat = 34 ∨ c.toNat = 92
    · have he : esc1 c = [92, c] := by unfold esc1; rw [if_pos k1]
      have fin := hn1 (acc ++ [92] ++ [c]) (by rw [he, List.append_assoc]; rfl)
      have b2 := bs_append acc [92]
      have b3 := bs_append (acc ++ [92]) [c]
      have l0 : (acc ++ [92]).length = acc.length + 1 := by simp
      have q2 : decide ((c.toNat : Int) < 32) = false := by rw [decide_eq_false_iff_not]; omega
      rcases k1 with k1 | k1
      · have q1 : ((c.toNat : Int) == 34) = true := by rw [k1]; rfl
        refine G1 F4 (an hc (an q1 (an q2 (an e3 (an a92 (an b2 (an b3 (an l0 (an hsl tt))))))))) tt tt tt ⟨?_⟩
        refine ⟨m - 1, (k + 1, acc ++ [92] ++ [c]), by omega, ⟨by show m - 1 + (k + 1) = l.length; omega, fin⟩, ?_, (by first | rfl | trivial)⟩
        try unfold ms16_0
        exact A0 tt
      · have q0 : (((c.toNat : Int) : Int) == 34) = false := by rw [beq_eq_false_iff_ne, ne_eq]; omega
        have q1 : ((c.toNat : Int) == 92) = true := by rw [k1]; rfl
        refine G1 F4 (an hc (an q0 (an q1 (an q2 (an e3 (an a92 (an b2 (an b3 (an l0 (an hsl tt)))))))))) tt tt tt ⟨?_⟩
        refine ⟨m - 1, (k + 1, acc ++ [92] ++ [c]), by omega, ⟨by show m - 1 + (k + 1) = l.length; omega, fin⟩, ?_, (by first | rfl | trivial)⟩
        try unfold ms16_0
        exact A0 tt
    have q0 : (((c.toNat : Int) : Int) == 34) = false := by rw [beq_eq_false_iff_ne, ne_eq]; omega
    have q1 : (((c.toNat : Int) : Int) == 92) = false := by rw [beq_eq_false_iff_ne, ne_eq]; omega
    by_cases k2 : c.toNat < 32
    · have q2 : decide ((c.toNat : Int) < 32) = true := by rw [decide_eq_true_eq]; omega
      have he : esc1 c = [92, 117, 48, 48, hx (c.toNat / 16), hx (c.toNat % 16)] := by unfold esc1; rw [if_neg k1, if_pos k2]
      have fin := hn1 (acc ++ [92, 117, 48, 48] ++ [hx (c.toNat / 16), hx (c.toNat % 16)]) (by rw [he, List.append_assoc]; rfl)
      have hp := rhex_p c.toNat k2 (some 1) (NR.vsl (NR.ints _ _))
      have e1 : (List.replicate 1 (0 : Int)).set 0 (c.toNat : Int) = [(c.toNat : Int)] := rfl
      have b2 := bs_append acc [92, 117, 48, 48]
      have b3 := bs_append (acc ++ [92, 117, 48, 48]) [hx (c.toNat / 16), hx (c.toNat % 16)]
      have l0 : (acc ++ [92, 117, 48, 48]).length = acc.length + 4 := by simp
      have l1 : [hx (c.toNat / 16), hx (c.toNat % 16)].length = 2 := rfl
      refine G1 F5 (an hc (an q0 (an q1 (an q2 (an e1 (an e3 (an a00 (an b2 (an b3 (an l0 (an l1 tt))))))))))) (an hp.go tt) tt tt ⟨?_⟩
      refine ⟨m - 1, (k + 1, acc ++ [92, 117, 48, 48] ++ [hx (c.toNat / 16), hx (c.toNat % 16)]), by omega, ⟨by show m - 1 + (k + 1) = l.length; omega, fin⟩, ?_, (by first | rfl | trivial)⟩
      try unfold ms16_0
      exact A0 tt
    · have q2 : decide ((c.toNat : Int) < 32) = false := by rw [decide_eq_false_iff_not]; omega
      have he : esc1 c = [c] := by unfold esc1; rw [if_neg k1, if_neg k2]
      have fin := hn1 (acc ++ [c]) (by rw [he])
      have b2 := bs_append acc [c]
      refine G1 F4 (an hc (an q0 (an q1 (an q2 (an e3 (an b2 (an hsl tt))))))) tt tt tt ⟨?_⟩
      refine ⟨m - 1, (k + 1, acc ++ [c]), by omega, ⟨by show m - 1 + (k + 1) = l.length; omega, fin⟩, ?_, (by first | rfl | trivial)⟩
      try unfold ms16_0
      exact A0 tt
  · have hk2 : k = l.length := by omega
    subst hk2
    have b1 := bs_append acc [34]
    refine G1 F4 (an a34 (an b1 tt)) tt tt tt ⟨?_⟩
    refine R1 tt ⟨?_⟩
    refine end0 (NR.v _) ?_
    rw [hV2, ← hi]
end Go.Abs.S
namespace Go.Abs.S
attribute [local go_sem] lguard aopO aop aenv toAV tput aLoad aStore vcells aBin aNilI aUn aAlloc aBox aBuild aBSlice afill aConv isIntT aappZ aCap aArr aMM aMake aSlice bnd3 bnd aFldAddr aFld aIdxAddr aIdx aExt aLen aCopy aEq0 bAV aUb aapp aappQ agh acont List.getD_cons_zero List.getD_cons_succ List.set_cons_zero List.set_cons_succ List.getElem?_cons_zero List.getElem?_cons_succ List.length_cons List.length_nil List.map_cons List.map_nil ints_length if_true if_false Bool.false_eq_true true_and and_true eq_self ne_eq not_false_eq_true not_true_eq_false beq_self_eq_true Nat.zero_add Nat.add_zero Nat.mul_one Nat.zero_mul Int.toNat_natCast List.toList_toArray List.all_cons List.all_nil AV.one Value.oneCell' Bool.and_true Bool.true_and forall_const true_implies false_implies implies_true Option.map_some Option.map_none Option.isSome_some Option.isSome_none imp_self rdP_flat rdP_row splice_one ints_set ints_get List.append_nil List.cons_append List.nil_append List.getElem?_toArray List.drop_zero ints_drop ints_take List.take_of_length_le splice_all ints_one Option.some.injEq Option.getD_some List.length_replicate zArr List.map_replicate rep_ints splice_intsR List.length_set List.length_append List.flatten_replicate_singleton rep_slice rep_string rep_bool rep_iface List.replicate_zero if_pos if_neg List.mapM_cons List.mapM_nil Option.pure_def Option.bind_eq_bind Option.bind_some Bool.true_eq_false Bool.not_false Bool.not_true get_concat set_concat
open Go.Proofs
open Classical
set_option linter.unusedVariables false
set_option linter.unusedSimpArgs false
set_option maxRecDepth 100000
set_option maxHeartbeats 8000000
theorem good_text (s : ByteArray) : goodV (.mk 4 s [] []) 1 = if rightL (bl s) = true then 0 else 2 := by
  have hv : validP s = rightL (bl s) := by
    have h := valid_right (bl s)
    rwa [show bs (bl s) = s from bs_bl s] at h
  have hf : formV (.mk 4 s [] []) = rightL (bl s) := by
    rw [formV, if_neg (by decide), if_neg (by decide), if_pos rfl, hv]
    rfl
  rw [goodV, if_neg (by decide), hf]
  cases rightL (bl s) with
  | true =>
    rw [if_neg (by decide), if_pos rfl]
    rfl
  | false =>
    rw [if_pos rfl]
    rfl
theorem parse_text (l : List UInt8) (h : rightL l = true) : parseP ([32] ++ (quoL l ++ [10])) = (.mk 4 (bs l) [] [], 0) := by
  refine parse_of _ _ [10] (value_text 9 1 (by decide) [32] (by decide) l [10] h) (by decide)
theorem texts_law (s : ByteArray) : PCall Tryd.prog glob 4 [stA s] (.v (.bool true)) := by
  refine PCall.of ctx.nr nrs (NR.v _) ?_
  refine lcall4 (by simp) 0 (Nat.le_refl _) ?_
  have aw := awake_p
  unfold lc4
  refine I1 tt ⟨?_⟩
  by_cases h2 : 200 < s.size
  · have d2 : decide ((s.size : Int) > 200) = true := by rw [decide_eq_true_eq]; omega
    refine G1 F4 (an d2 tt) (an aw.go tt) tt tt ⟨?_⟩
    refine R1 tt ⟨?_⟩
    exact end0 (NR.v _) rfl
  have d2 : decide ((s.size : Int) > 200) = false := by rw [decide_eq_false_iff_not]; omega
  have hsl : (bl s).length = s.size := Array.length_toList
  have rp := rights_p s (by omega)
  have qp : PCall Tryd.prog glob 16 [stA s] (.v (.string (bs (quoL (bl s))))) := rquoted_p (bl s) (by omega)
  have hg := good_text s
  have hql : (quoL (bl s)).length ≤ 2000 := by
    have := (quoB_len (bl s)).2
    unfold quoL
    simp only [List.length_append, List.length_cons, List.length_nil]
    omega
  have hsm := small_leaf 4 s (by omega)
  have pe : (prV (.mk 4 s [] [])) = quoL (bl s) := by
    rw [prV]
    rfl
  have nA : ∀ k t, AvLe (.agg [ivC k, stA t, nlA, nlA]) (vA (.mk k t [] [])) := fun k t => by
    unfold vA
    rw [Val.cells]
    exact avle_ag ⟨AvLe.refl _, AvLe.refl _, AvLe.nil, AvLe.nil, trivial⟩
  by_cases hr : rightL (bl s) = true
  · rw [hr] at rp
    rw [if_pos hr] at hg
    have pr := Print_good _ hsm hg (by rw [pe]; omega)
    rw [pe] at pr
    have pr : PCall Tryd.prog glob 13 [.agg [ivC 4, stA s, nlA, nlA]] (.tup [stA (bs (quoL (bl s))), ivC 0]) := pr.les ⟨nA 4 s, trivial⟩
    have pt := parse_text (bl s) hr
    obtain ⟨Q, hQ⟩ : ∃ Q, quoL (bl s) = Q := ⟨_, rfl⟩
    rw [hQ] at pr qp hql pt
    have pp := Parse_p ([32] ++ (Q ++ [10])) (by simp only [List.length_append, List.length_cons, List.length_nil]; omega)
    rw [pt] at pp
    have e1 : (⟨#[32]⟩ : ByteArray) ++ bs Q = bs ([32] ++ Q) := bs_append [32] Q
    have e2 : bs ([32] ++ Q) ++ (⟨#[10]⟩ : ByteArray) = bs ([32] ++ (Q ++ [10])) := by
      rw [show (⟨#[10]⟩ : ByteArray) = bs [10] from rfl, bs_append, List.append_assoc]
    have z1 : (#[32] : Array UInt8).size = 1 := rfl
    have z2 : (#[10] : Array UInt8).size = 1 := rfl
    have l1 : ([32] ++ Q).length = Q.length + 1 := by simp
    obtain ⟨P1, hP1⟩ : ∃ P, [32] ++ Q = P := ⟨_, rfl⟩
    obtain ⟨P2, hP2⟩ : ∃ P, [32] ++ (Q ++ [10]) = P := ⟨_, rfl⟩
    rw [hP1] at e1 e2 l1
    rw [hP2] at e2 pp
    have hss : bs (bl s) = s := bs_bl s
    rw [hss] at pp
    unfold vA at pp
    rw [Val.cells] at pp
    have q : (s.toList == s.toList) = true := by rw [stA_beq]; exact decide_eq_true rfl
    have qd : decide (s.toList = s.toList) = true := decide_eq_true rfl
    have q3 : (Q == Q) = true := by simp
    refine G1 F4 (an d2 (an e1 (an e2 (an z1 (an z2 (an l1 (an q (an qd (an q3 tt))))))))) (an aw.go (an pr.go (an rp.go (an pp.go (an qp.go tt))))) tt tt ⟨?_⟩
    refine R1 tt ⟨?_⟩
    exact end0 (NR.v _) (by simp)
  · have hr0 : rightL (bl s) = false := by
      cases h : rightL (bl s)
      · rfl
      · exact absurd h hr
    rw [hr0] at rp
    rw [if_neg hr] at hg
    have pr : PCall Tryd.prog glob 13 [.agg [ivC 4, stA s, nlA, nlA]] (.tup [stA ⟨#[]⟩, ivC 2]) := (Print_bad _ hsm 2 hg (by decide)).les ⟨nA 4 s, trivial⟩
    refine G1 F4 (an d2 tt) (an aw.go (an pr.go (an rp.go tt))) tt tt ⟨?_⟩
    refine R1 tt ⟨?_⟩
    exact end0 (NR.v _) (by simp)
end Go.Abs.S
