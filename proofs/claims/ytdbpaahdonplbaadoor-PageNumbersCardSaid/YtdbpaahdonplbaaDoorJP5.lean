/- strconv.ParseUint of four hexadecimal digits. page: what stands behind a \. page: a text, behind its ". page: a page's next name. A method that writes its own block may read what may be written later, -/
import Derived.Test.YtdbpaahdonplbaaDoorJP4
import Derived.Test.YtdbpaahdonplbaaDoorJP2
import Derived.Test.YtdbpaahdonplbaaDoorJP3
namespace Go.Abs.S
attribute [local go_sem] lguard aopO aop aenv toAV tput aLoad aStore vcells aBin aNilI aUn aAlloc aBox aBuild aBSlice afill aConv isIntT aappZ aCap aArr aMM aMake aSlice bnd3 bnd aFldAddr aFld aIdxAddr aIdx aExt aLen aCopy aEq0 bAV aUb aapp aappQ agh acont List.getD_cons_zero List.getD_cons_succ List.set_cons_zero List.set_cons_succ List.getElem?_cons_zero List.getElem?_cons_succ List.length_cons List.length_nil List.map_cons List.map_nil ints_length if_true if_false Bool.false_eq_true true_and and_true eq_self ne_eq not_false_eq_true not_true_eq_false beq_self_eq_true Nat.zero_add Nat.add_zero Nat.mul_one Nat.zero_mul Int.toNat_natCast List.toList_toArray List.all_cons List.all_nil AV.one Value.oneCell' Bool.and_true Bool.true_and forall_const true_implies false_implies implies_true Option.map_some Option.map_none Option.isSome_some Option.isSome_none imp_self rdP_flat rdP_row splice_one ints_set ints_get List.append_nil List.cons_append List.nil_append List.getElem?_toArray List.drop_zero ints_drop ints_take List.take_of_length_le splice_all ints_one Option.some.injEq Option.getD_some List.length_replicate zArr List.map_replicate rep_ints splice_intsR List.length_set List.length_append List.flatten_replicate_singleton rep_slice rep_string rep_bool rep_iface List.replicate_zero if_pos if_neg List.mapM_cons List.mapM_nil Option.pure_def Option.bind_eq_bind Option.bind_some Bool.true_eq_false Bool.not_false Bool.not_true get_concat set_concat
open Go.Proofs
set_option linter.unusedVariables false
set_option linter.unusedSimpArgs false
set_option maxRecDepth 100000
set_option maxHeartbeats 4000000
theorem NR.tw (a b : Value) : NR (.tup [.v a, .v b]) := NR.tup (by intro c hc; simp at hc; rcases hc with rfl | rfl <;> exact NR.v _)
theorem lower_p (c : Int) : PCall Tryd.prog glob 88 [.v (.int .u8 c)] (.v (.int .u8 (ibits .or .u8 c 32))) := by
  refine PCall.of ctx.nr nrs (NR.v _) ?_
  refine lcall88 (by simp) 0 (Nat.le_refl _) ?_
  unfold lc88
  refine I1 tt ⟨?_⟩
  refine G1 F4 tt tt tt tt ⟨?_⟩
  refine R1 tt ⟨?_⟩
  exact end0 (NR.v _) rfl
/-- The number of the first k digits. -/
def pv (l : List UInt8) : Nat → Nat
  | 0 => 0
  | k + 1 => pv l k * 16 + hexV (l.getD k 0)
theorem hex_dig : ∀ c : _root_.Fin 256, hexs.contains (UInt8.ofNat c.val) = true → hexV (UInt8.ofNat c.val) < 16 ∧ c.val ≠ 95 ∧
    ((48 ≤ c.val ∧ c.val ≤ 57 ∧ hexV (UInt8.ofNat c.val) = c.val - 48) ∨ (57 < c.val ∧ 97 ≤ ibits .or .u8 (c.val : Int) 32 ∧ ibits .or .u8 (c.val : Int) 32 ≤ 102 ∧ (hexV (UInt8.ofNat c.val) : Int) = ibits .or .u8 (c.val : Int) 32 - 87)) := by decide +kernel
theorem hex_dig' (c : UInt8) (h : hexs.contains c = true) : hexV c < 16 ∧ c.toNat ≠ 95 ∧
    ((48 ≤ c.toNat ∧ c.toNat ≤ 57 ∧ hexV c = c.toNat - 48) ∨ (57 < c.toNat ∧ 97 ≤ ibits .or .u8 (c.toNat : Int) 32 ∧ ibits .or .u8 (c.toNat : Int) 32 ≤ 102 ∧ (hexV c : Int) = ibits .or .u8 (c.toNat : Int) 32 - 87)) := by
  have := hex_dig ⟨c.toNat, c.toNat_lt⟩
  simp only [UInt8.ofNat_toNat] at this
  exact this h
theorem pv_lt (l : List UInt8) (h : ∀ c ∈ l, hexs.contains c = true) : ∀ k, k ≤ l.length → pv l k < 16 ^ k
  | 0, _ => by simp [pv]
  | k + 1, hk => by
    have ih := pv_lt l h k (by omega)
    have hm : l.getD k 0 ∈ l := by
      rw [List.getD_eq_getElem?_getD, List.getElem?_eq_getElem (by omega)]
      exact List.getElem_mem _
    have := (hex_dig' _ (h _ hm)).1
    rw [pv, Nat.pow_succ]
    omega
theorem iParse_p (l : List UInt8) (h4 : l.length = 4) (h : ∀ c ∈ l, hexs.contains c = true) : PCall Tryd.prog glob 83 [.v (.string (bs l)), .v (.int .i64 16), .v (.int .i64 32)] (.tup [.v (.int .u64 (pv l 4)), .v .nilIface]) := by
  refine PCall.of ctx.nr nrs (NR.tw _ _) ?_
  refine lcall83 (by simp) 0 (Nat.le_refl _) ?_
  unfold lc83
  refine I1 tt ⟨?_⟩
  have hne : l ≠ [] := fun e => by rw [e] at h4; cases h4
  have q0 : decide (l = (⟨#[]⟩ : ByteArray).toList) = false := decide_eq_false (fun e => hne (by rw [e, ByteArray.toList_eq]))
  have em : List.map (fun b : UInt8 => AV.v (Value.int .u8 (b.toNat : Int))) l = ints .u8 (bytesOf (bs l)) := by simp [ints, bytesOf, bs]
  have hbl : (bytesOf (bs l)).length = 4 := by simp [bytesOf, bs, h4]
  have hbk : ∀ k, k < 4 → (bytesOf (bs l)).getD k 0 = ((l.getD k 0).toNat : Int) := fun k hk => by
    simp [bytesOf, bs, List.getD_eq_getElem?_getD, List.getElem?_eq_getElem (show k < l.length by omega)]
  have s1 : shlI .u64 1 32 = 4294967296 := by decide
  have s2 : IntKind.u64.wrap 32 = 32 := by decide
  have s3 : IntKind.u64.wrap (4294967296 - 1) = 4294967295 := by decide
  have s4 : IntKind.u64.wrap 4294967295 = 4294967295 := by decide
  refine G1 F4 (an q0 (an em (an hbl (an s1 (an s2 (an s3 (an s4 (an h4 tt)))))))) tt tt tt ⟨?_⟩
  refine lavc_loopM ms83_0 (fun m (k : Nat) => m + k = 4) (fun k => [(12, .v (.bool false)), (13, .v (.int .u64 (pv l k))), (101, .v (.int .i64 k))]) (fun _ => [⟨ints .u8 (bytesOf (bs l)), 0, true, 5⟩]) 4 0 (by omega) ?_ rfl ?_
  · try unfold ms83_0
    refine A1 tt ⟨?_⟩
    exact ⟨rfl, rfl⟩
  rintro m k hk
  try unfold ms83_0
  refine M1 tt ⟨?_⟩
  refine G1 F1 tt tt tt tt ⟨?_⟩
  refine cnd rfl (fun hc => ?_) (fun hc => ?_)
  · have hk4 : k < 4 := by omega
    have hb := hbk k hk4
    have hm : l.getD k 0 ∈ l := by
      rw [List.getD_eq_getElem?_getD, List.getElem?_eq_getElem (by omega)]
      exact List.getElem_mem _
    have hd := hex_dig' _ (h _ hm)
    have hp := pv_lt l h k (by omega)
    have hp1 := pv_lt l h (k + 1) (by omega)
    have hps : pv l (k + 1) = pv l k * 16 + hexV (l.getD k 0) := rfl
    have h16 : 16 ^ k ≤ 4096 := by
      have : ∀ k, k < 4 → 16 ^ k ≤ 4096 := by decide
      exact this k hk4
    have h17 : 16 ^ (k + 1) ≤ 65536 := by
      have : ∀ k, k < 4 → 16 ^ (k + 1) ≤ 65536 := by decide
      exact this k hk4
    obtain ⟨c, hc⟩ : ∃ c, l.getD k 0 = c := ⟨_, rfl⟩
    rw [hc] at hb hd hps
    obtain ⟨x, hx⟩ : ∃ x, hexV c = x := ⟨_, rfl⟩
    rw [hx] at hd hps
    obtain ⟨p, hpv⟩ : ∃ p, pv l k = p := ⟨_, rfl⟩
    obtain ⟨p1, hpv1⟩ : ∃ p, pv l (k + 1) = p := ⟨_, rfl⟩
    rw [hpv] at hps hp ⊢
    rw [hpv1] at hps hp1
    have hcb := c.toNat_lt
    obtain ⟨n, hn⟩ : ∃ n, c.toNat = n := ⟨_, rfl⟩
    rw [hn] at hb hd hcb
    obtain ⟨d1, d2, d3⟩ := hd
    have q95 : ((n : Int) == 95) = false := by rw [beq_eq_false_iff_ne, ne_eq]; omega
    have qd : decide ((x : Int) ≥ 16) = false := by rw [decide_eq_false_iff_not]; omega
    have qc : decide ((p : Int) ≥ 1152921504606846976) = false := by rw [decide_eq_false_iff_not]; omega
    have e1 : IntKind.u64.wrap ((p : Int) * 16) = ((p * 16 : Nat) : Int) := by rw [IntKind.wrap_u64]; omega
    have e2 : IntKind.u64.wrap (x : Int) = x := by rw [IntKind.wrap_u64]; omega
    have e3 : IntKind.u64.wrap (((p * 16 : Nat) : Int) + x) = p1 := by rw [IntKind.wrap_u64]; omega
    have e4 : IntKind.u8.wrap 16 = 16 := by decide
    have e5 : IntKind.u64.wrap 16 = 16 := by decide
    have ql : decide ((p1 : Int) < ((p * 16 : Nat) : Int)) = false := by rw [decide_eq_false_iff_not]; omega
    have qm : decide ((p1 : Int) > 4294967295) = false := by rw [decide_eq_false_iff_not]; omega
    have e6 := i64n ((k : Int) + 1) (k + 1) (by omega) (by omega)
    have lp := lower_p (n : Int)
    rcases d3 with ⟨f1, f2, f3⟩ | ⟨f1, f2, f3, f4⟩
    · have g1 : decide ((48 : Int) ≤ n) = true := by rw [decide_eq_true_eq]; omega
      have g2 : decide ((n : Int) ≤ 57) = true := by rw [decide_eq_true_eq]; omega
      have w1 : IntKind.u8.wrap ((n : Int) - 48) = x := by rw [IntKind.wrap_u8]; omega
      refine G1 F4 (an hb (an hbl (an q95 (an g1 (an g2 (an w1 (an qd (an qc (an e1 (an e2 (an e3 (an e4 (an e5 (an e6 (an ql (an qm tt)))))))))))))))) tt tt tt ⟨?_⟩
      refine ⟨m - 1, k + 1, by omega, by omega, ?_, (by first | rfl | trivial)⟩
      rw [hpv1]
      try unfold ms83_0
      exact A0 tt
    · obtain ⟨y, hy⟩ : ∃ y, ibits .or .u8 (n : Int) 32 = y := ⟨_, rfl⟩
      rw [hy] at f2 f3 f4 lp
      have g1 : decide ((48 : Int) ≤ n) = true := by rw [decide_eq_true_eq]; omega
      have g2 : decide ((n : Int) ≤ 57) = false := by rw [decide_eq_false_iff_not]; omega
      have g3 : decide ((97 : Int) ≤ y) = true := by rw [decide_eq_true_eq]; omega
      have g4 : decide (y ≤ 122) = true := by rw [decide_eq_true_eq]; omega
      have w1 : IntKind.u8.wrap (y - 97) = y - 97 := by rw [IntKind.wrap_u8]; omega
      have w2 : IntKind.u8.wrap (y - 97 + 10) = x := by rw [IntKind.wrap_u8]; omega
      refine G1 F4 (an hb (an hbl (an q95 (an g1 (an g2 (an g3 (an g4 (an w1 (an w2 (an qd (an qc (an e1 (an e2 (an e3 (an e4 (an e5 (an e6 (an ql (an qm tt))))))))))))))))))) (an lp.go tt) tt tt ⟨?_⟩
      refine ⟨m - 1, k + 1, by omega, by omega, ?_, (by first | rfl | trivial)⟩
      rw [hpv1]
      try unfold ms83_0
      exact A0 tt
  · have hk4 : k = 4 := by omega
    subst hk4
    refine G1 F4 tt tt tt tt ⟨?_⟩
    refine R1 tt ⟨?_⟩
    exact end0 (NR.tw _ _) rfl
theorem parse_p (l : List UInt8) (h4 : l.length = 4) (h : ∀ c ∈ l, hexs.contains c = true) : PCall Tryd.prog glob 73 [.v (.string (bs l)), .v (.int .i64 16), .v (.int .i64 32)] (.tup [.v (.int .u64 (pv l 4)), .v .nilIface]) := by
  refine PCall.of ctx.nr nrs (NR.tw _ _) ?_
  refine lcall73 (by simp) 0 (Nat.le_refl _) ?_
  unfold lc73
  refine I1 tt ⟨?_⟩
  have ip := iParse_p l h4 h
  refine G1 F4 tt (an ip.go tt) tt tt ⟨?_⟩
  refine R1 tt ⟨?_⟩
  exact end0 (NR.tw _ _) rfl
end Go.Abs.S
namespace Go.Abs.S
attribute [local go_sem] lguard aopO aop aenv toAV tput aLoad aStore vcells aBin aNilI aUn aAlloc aBox aBuild aBSlice afill aConv isIntT aappZ aCap aArr aMM aMake aSlice bnd3 bnd aFldAddr aFld aIdxAddr aIdx aExt aLen aCopy aEq0 bAV aUb aapp aappQ agh acont List.getD_cons_zero List.getD_cons_succ List.set_cons_zero List.set_cons_succ List.getElem?_cons_zero List.getElem?_cons_succ List.length_cons List.length_nil List.map_cons List.map_nil ints_length if_true if_false Bool.false_eq_true true_and and_true eq_self ne_eq not_false_eq_true not_true_eq_false beq_self_eq_true Nat.zero_add Nat.add_zero Nat.mul_one Nat.zero_mul Int.toNat_natCast List.toList_toArray List.all_cons List.all_nil AV.one Value.oneCell' Bool.and_true Bool.true_and forall_const true_implies false_implies implies_true Option.map_some Option.map_none Option.isSome_some Option.isSome_none imp_self rdP_flat rdP_row splice_one ints_set ints_get List.append_nil List.cons_append List.nil_append List.getElem?_toArray List.drop_zero ints_drop ints_take List.take_of_length_le splice_all ints_one Option.some.injEq Option.getD_some List.length_replicate zArr List.map_replicate rep_ints splice_intsR List.length_set List.length_append List.flatten_replicate_singleton rep_slice rep_string rep_bool rep_iface List.replicate_zero if_pos if_neg List.mapM_cons List.mapM_nil Option.pure_def Option.bind_eq_bind Option.bind_some Bool.true_eq_false Bool.not_false Bool.not_true get_concat set_concat
open Go.Proofs
set_option linter.unusedVariables false
set_option linter.unusedSimpArgs false
set_option maxRecDepth 100000
set_option maxHeartbeats 4000000
theorem ixB_range (b : UInt8) : ∀ l : List UInt8, Lib.indexByte l b = -1 ∨ (0 ≤ Lib.indexByte l b ∧ Lib.indexByte l b < l.length)
  | [] => .inl rfl
  | a :: l => by
    have ih := ixB_range b l
    rw [Lib.indexByte, List.length_cons]
    split
    · exact .inr ⟨by omega, by omega⟩
    · split
      · exact .inl rfl
      · refine .inr ⟨by omega, by omega⟩
theorem dwn {α : Type} (p : α → Bool) : ∀ l : List α, l.dropWhile p = [] → ∀ x ∈ l, p x = true
  | [], _, x, h => absurd h List.not_mem_nil
  | a :: l, h, x, hx => by
    rw [List.dropWhile_cons] at h
    split at h
    · rename_i ha
      rcases List.mem_cons.1 hx with rfl | hx
      · exact ha
      · exact dwn p l h x hx
    · cases h
theorem trim_all (cs : List UInt8) (l : List UInt8) (h : Lib.trimS l cs = []) : ∀ c ∈ l, cs.contains c = true := by
  unfold Lib.trimS Lib.trimLeftS Lib.trimRightS at h
  have h := dwn _ _ h
  have h0 : l.reverse.dropWhile (cs.contains ·) = [] := by
    cases hd : l.reverse.dropWhile (cs.contains ·) with
    | nil => rfl
    | cons x r =>
      exfalso
      have h1 := h x (by rw [hd]; simp)
      have h2 := List.head_dropWhile_not (p := (cs.contains ·)) (l := l.reverse) (by rw [hd]; simp)
      simp only [hd, List.head_cons] at h2
      rw [h1] at h2
      cases h2
  exact fun c hc => dwn _ _ h0 c (by simpa using hc)
theorem pv_hex4 : ∀ r : List UInt8, 4 ≤ r.length → pv (r.take 4) 4 = hex4 r
  | a :: b :: c :: d :: r, _ => by
    simp [pv, hex4]
  | [], h => by simp at h
  | [_], h => by simp at h
  | [_, _], h => by simp at h
  | [_, _, _], h => by simp at h
theorem nil_tl : (⟨#[]⟩ : ByteArray).toList = [] := by rw [ByteArray.toList_eq]
theorem eq_nil (l : List UInt8) : decide (l = (⟨#[]⟩ : ByteArray).toList) = decide (l = []) := by rw [nil_tl]
theorem escape_m (s : St) (hl : s.1.length ≤ 1000000) : MCall Tryd.prog glob 54 [] (RB s) (.v (.string (escP s).1)) (RB (escP s).2) := by
  obtain ⟨l, f⟩ := s
  refine MCall.of ctx.nr rfl rfl nrs (NR.v _) (RB.nr _) (RB.nr _) ?_
  refine lcall54 (by simp) 1 (Nat.le_refl _) ?_
  unfold lc54
  refine I1 tt ⟨?_⟩
  cases l with
  | nil =>
    have q0 : decide (([] : List UInt8) = (⟨#[]⟩ : ByteArray).toList) = true := by rw [eq_nil]; rfl
    have gm := give_m 2 ([], f)
    simp only [escP]
    refine G1 F4 (an q0 tt) tt (an gm.go tt) tt ⟨?_⟩
    refine R1 tt ⟨?_⟩
    exact end1 (NR.v _) rfl (RB.nr _) rfl
  | cons c r =>
    have q0 : decide (c :: r = (⟨#[]⟩ : ByteArray).toList) = false := by rw [eq_nil]; rfl
    have h0 : (c :: r).getD 0 0 = c := rfl
    have h1 : (c :: r).drop 1 = r := rfl
    have hlr : r.length ≤ 1000000 := by simp only [List.length_cons] at hl; omega
    have hln : (c :: r).length = r.length + 1 := rfl
    have h2 : List.take ((c :: r).length - 1) r = r := List.take_of_length_le (by simp)
    obtain ⟨l, hlc⟩ : ∃ l, c :: r = l := ⟨_, rfl⟩
    have ib : PCall Tryd.prog glob 71 [.v (.string ⟨#[34, 92, 47, 98, 102, 110, 114, 116]⟩), .v (.int .u8 (c.toNat : Int))] (.v (.int .i64 (Lib.indexByte esc8.data.toList c))) := ixb_p _ c
    simp only [escP]
    have hr := ixB_range c esc8.data.toList
    have z8 : (esc8.data.toList.length : Int) = 8 := rfl
    have z9 : (⟨#[34, 92, 47, 8, 12, 10, 13, 9]⟩ : ByteArray).size = 8 := rfl
    obtain ⟨i, hi⟩ : ∃ i, Lib.indexByte esc8.data.toList c = i := ⟨_, rfl⟩
    rw [hi] at ib hr ⊢
    rw [hlc] at q0 h0 h1 hln h2 ⊢
    by_cases hi0 : 0 ≤ i
    · rw [if_pos hi0]
      obtain ⟨k, rfl⟩ := Int.eq_ofNat_of_zero_le hi0
      have hk8 : k < 8 := by omega
      have d1 : decide ((k : Int) ≥ 0) = true := by rw [decide_eq_true_eq]; omega
      have e1 := i64n ((k : Int) + 1) (k + 1) (by omega) (by omega)
      refine G1 F4 (an q0 (an h0 (an h1 (an h2 (an d1 (an e1 (an z9 tt))))))) (an ib.go tt) tt tt ⟨?_⟩
      refine R1 tt ⟨?_⟩
      exact end1 (NR.v _) rfl (RB.nr _) rfl
    rw [if_neg hi0]
    have d1 : decide (i ≥ 0) = false := by rw [decide_eq_false_iff_not]; omega
    have gm := give_m 2 (r, f)
    by_cases hu : c.toNat ≠ 117
    · rw [if_pos (.inl hu)]
      have q1 : (((c.toNat : Int) : Int) != 117) = true := by rw [bne_iff_ne, ne_eq]; omega
      refine G1 F4 (an q0 (an h0 (an h1 (an h2 (an d1 (an q1 tt)))))) (an ib.go tt) (an gm.go tt) tt ⟨?_⟩
      refine R1 tt ⟨?_⟩
      exact end1 (NR.v _) rfl (RB.nr _) rfl
    have hu : c.toNat = 117 := Classical.byContradiction hu
    have q1 : (((c.toNat : Nat) : Int) != 117) = false := by rw [hu]; rfl
    by_cases h4 : r.length < 4
    · rw [if_pos (.inr (.inl h4))]
      have d2 : decide ((r.length : Int) < 4) = true := by rw [decide_eq_true_eq]; omega
      refine G1 F4 (an q0 (an h0 (an h1 (an h2 (an d1 (an q1 (an d2 tt))))))) (an ib.go tt) (an gm.go tt) tt ⟨?_⟩
      refine R1 tt ⟨?_⟩
      exact end1 (NR.v _) rfl (RB.nr _) rfl
    have d2 : decide ((r.length : Int) < 4) = false := by rw [decide_eq_false_iff_not]; omega
    have t4 : (r.take 4).length = 4 := by rw [List.length_take]; omega
    have tp := trim_p (r.take 4) (by omega)
    by_cases ht : Lib.trimS (r.take 4) hexs ≠ []
    · rw [if_pos (.inr (.inr ht))]
      have q2 : decide (Lib.trimS (r.take 4) hexs = (⟨#[]⟩ : ByteArray).toList) = false := by rw [eq_nil]; exact decide_eq_false ht
      have q3 : (Lib.trimS (r.take 4) hexs != (⟨#[]⟩ : ByteArray).toList) = true := by rw [nil_tl]; simpa using ht
      refine G1 F4 (an q0 (an h0 (an h1 (an h2 (an d1 (an q1 (an d2 (an q2 (an q3 tt))))))))) (an ib.go (an tp.go tt)) (an gm.go tt) tt ⟨?_⟩
      refine R1 tt ⟨?_⟩
      exact end1 (NR.v _) rfl (RB.nr _) rfl
    have ht : Lib.trimS (r.take 4) hexs = [] := Classical.byContradiction ht
    rw [if_neg (by rintro (h | h | h); exact h hu; exact h4 h; exact h ht)]
    have q2 : decide (Lib.trimS (r.take 4) hexs = (⟨#[]⟩ : ByteArray).toList) = true := by rw [eq_nil]; exact decide_eq_true ht
    have q3 : (Lib.trimS (r.take 4) hexs != (⟨#[]⟩ : ByteArray).toList) = false := by rw [nil_tl, ht]; rfl
    have pp := parse_p (r.take 4) t4 (trim_all hexs _ ht)
    have hv := pv_lt (r.take 4) (trim_all hexs _ ht) 4 (by omega)
    rw [pv_hex4 r (by omega)] at pp hv
    have gm2 := give_m 2 (r.drop 4, f)
    obtain ⟨n, hn⟩ : ∃ n, hex4 r = n := ⟨_, rfl⟩
    rw [hn] at pp hv ⊢
    by_cases h5 : 55296 ≤ n ∧ n < 57344
    · rw [if_pos h5]
      have d3 : decide ((n : Int) ≥ 55296) = true := by rw [decide_eq_true_eq]; omega
      have d4 : decide ((n : Int) < 57344) = true := by rw [decide_eq_true_eq]; omega
      refine G1 F4 (an q0 (an h0 (an h1 (an h2 (an d1 (an q1 (an d2 (an q2 (an q3 (an d3 (an d4 tt))))))))))) (an ib.go (an tp.go (an pp.go tt))) (an gm2.go tt) tt ⟨?_⟩
      refine R1 tt ⟨?_⟩
      exact end1 (NR.v _) rfl (RB.nr _) rfl
    rw [if_neg h5]
    have e3 : IntKind.i32.wrap (n : Int) = n := by rw [IntKind.wrap_i32]; omega
    by_cases h6 : 55296 ≤ n
    · have d3 : decide ((n : Int) ≥ 55296) = true := by rw [decide_eq_true_eq]; omega
      have d4 : decide ((n : Int) < 57344) = false := by rw [decide_eq_false_iff_not]; omega
      refine G1 F4 (an q0 (an h0 (an h1 (an h2 (an d1 (an q1 (an d2 (an q2 (an q3 (an d3 (an d4 (an e3 tt)))))))))))) (an ib.go (an tp.go (an pp.go tt))) tt tt ⟨?_⟩
      refine R1 tt ⟨?_⟩
      exact end1 (NR.v _) rfl (RB.nr _) rfl
    · have d3 : decide ((n : Int) ≥ 55296) = false := by rw [decide_eq_false_iff_not]; omega
      refine G1 F4 (an q0 (an h0 (an h1 (an h2 (an d1 (an q1 (an d2 (an q2 (an q3 (an d3 (an e3 tt))))))))))) (an ib.go (an tp.go (an pp.go tt))) tt tt ⟨?_⟩
      refine R1 tt ⟨?_⟩
      exact end1 (NR.v _) rfl (RB.nr _) rfl
end Go.Abs.S
namespace Go.Abs.S
attribute [local go_sem] lguard aopO aop aenv toAV tput aLoad aStore vcells aBin aNilI aUn aAlloc aBox aBuild aBSlice afill aConv isIntT aappZ aCap aArr aMM aMake aSlice bnd3 bnd aFldAddr aFld aIdxAddr aIdx aExt aLen aCopy aEq0 bAV aUb aapp aappQ agh acont List.getD_cons_zero List.getD_cons_succ List.set_cons_zero List.set_cons_succ List.getElem?_cons_zero List.getElem?_cons_succ List.length_cons List.length_nil List.map_cons List.map_nil ints_length if_true if_false Bool.false_eq_true true_and and_true eq_self ne_eq not_false_eq_true not_true_eq_false beq_self_eq_true Nat.zero_add Nat.add_zero Nat.mul_one Nat.zero_mul Int.toNat_natCast List.toList_toArray List.all_cons List.all_nil AV.one Value.oneCell' Bool.and_true Bool.true_and forall_const true_implies false_implies implies_true Option.map_some Option.map_none Option.isSome_some Option.isSome_none imp_self rdP_flat rdP_row splice_one ints_set ints_get List.append_nil List.cons_append List.nil_append List.getElem?_toArray List.drop_zero ints_drop ints_take List.take_of_length_le splice_all ints_one Option.some.injEq Option.getD_some List.length_replicate zArr List.map_replicate rep_ints splice_intsR List.length_set List.length_append List.flatten_replicate_singleton rep_slice rep_string rep_bool rep_iface List.replicate_zero if_pos if_neg List.mapM_cons List.mapM_nil Option.pure_def Option.bind_eq_bind Option.bind_some Bool.true_eq_false Bool.not_false Bool.not_true get_concat set_concat
open Go.Proofs
set_option linter.unusedVariables false
set_option linter.unusedSimpArgs false
set_option maxRecDepth 100000
set_option maxHeartbeats 8000000
theorem decode_fit (s : ByteArray) (h : 0 < s.size) : 1 ≤ (Utf8.decode s 0).2 ∧ (Utf8.decode s 0).2 ≤ s.size := by
  unfold Utf8.decode
  simp only [Bool.and_eq_true, decide_eq_true_eq]
  split
  · exact ⟨Nat.le_refl _, h⟩
  split
  · rename_i h1
    split <;> simp only <;> omega
  split
  · split <;> simp only <;> omega
  split
  · split <;> simp only <;> omega
  · exact ⟨Nat.le_refl _, h⟩
theorem dec_fit (l : List UInt8) (h : l ≠ []) : 1 ≤ (Lib.decodeGo (bs l)).2 ∧ (Lib.decodeGo (bs l)).2 ≤ l.length := by
  have hp : 0 < l.length := List.length_pos_iff.2 h
  have hz := bs_size l
  unfold Lib.decodeGo
  rw [if_neg (by omega)]
  have := decode_fit (bs l) (by omega)
  omega
theorem enc_size (r : Int) : (Utf8.encode r).size ≤ 4 := by
  unfold Utf8.encode
  simp only
  split
  · split
    · exact Nat.le_of_ble_eq_true rfl
    split
    · exact Nat.le_of_ble_eq_true rfl
    split
    · exact Nat.le_of_ble_eq_true rfl
    · exact Nat.le_of_ble_eq_true rfl
  · exact Nat.le_of_ble_eq_true rfl
theorem esc_len (s : St) : (escP s).1.size ≤ 4 ∧ (escP s).2.1.length ≤ s.1.length := by
  obtain ⟨l, f⟩ := s
  have hg : ∀ (e : Int) (r : List UInt8) (n : Nat), r.length ≤ n → (giveP e (r, f)).1.length ≤ n := fun e r n h => by
    unfold giveP
    split
    · exact Nat.zero_le _
    · exact h
  cases l with
  | nil => exact ⟨by show (bs []).size ≤ 4; decide, hg _ _ _ (Nat.le_refl _)⟩
  | cons c r =>
    simp only [escP, List.length_cons]
    split
    · refine ⟨?_, by simp⟩
      rw [ByteArray.size_extract]
      have : esc8to.size = 8 := rfl
      rw [this]
      omega
    split
    · exact ⟨by show (bs []).size ≤ 4; decide, hg _ _ _ (by omega)⟩
    split
    · exact ⟨by show (bs []).size ≤ 4; decide, hg _ _ _ (by rw [List.length_drop]; omega)⟩
    · refine ⟨?_, ?_⟩
      · have := enc_size ((hex4 r : Nat) : Int)
        simp only
        exact this
      · show (r.drop 4).length ≤ r.length + 1
        rw [List.length_drop]
        omega
theorem take_y (p l : List UInt8) (f : Int) (h : p.isPrefixOf l = true) : MCall Tryd.prog glob 40 [.v (.string (bs p))] (RB (l, f)) (.v (.bool true)) (RB (l.drop p.length, f)) := by
  have := take_m p (l, f)
  unfold takeP at this
  simp only [h, if_true] at this
  exact this
theorem take_n (p l : List UInt8) (f : Int) (h : p.isPrefixOf l = false) : MCall Tryd.prog glob 40 [.v (.string (bs p))] (RB (l, f)) (.v (.bool false)) (RB (l, f)) := by
  have := take_m p (l, f)
  unfold takeP at this
  simp only [h, Bool.false_eq_true, if_false] at this
  exact this
theorem bytes_len (l : List UInt8) : l.length = (bytesOf (bs l)).length := by simp [bytesOf, bs]
theorem bytes_app (l m : List UInt8) : bytesOf (bs l) ++ bytesOf (bs m) = bytesOf (bs (l ++ m)) := by simp [bytesOf, bs]
theorem bytes_u8 (s : ByteArray) : ∀ x ∈ bytesOf s, 0 ≤ x ∧ x ≤ 255 := by
  intro x hx
  simp only [bytesOf, List.mem_map] at hx
  obtain ⟨b, _, rfl⟩ := hx
  have := b.toNat_lt
  omega
theorem text_m (s : St) (hs : s.1.length ≤ 1000000) : MCall Tryd.prog glob 41 [] (RB s) (.v (.string (bs (textR s).1))) (RB (textR s).2) := by
  refine MCall.of ctx.nr rfl rfl nrs (NR.v _) (RB.nr _) (RB.nr _) ?_
  refine lcall41 (by simp) 1 (Nat.le_refl _) ?_
  unfold lc41
  refine I1 tt ⟨?_⟩
  refine lavc_seq (lavc_reg ?_)
  refine G1 F6 tt tt tt tt ⟨?_⟩
  refine lavc_seq (lavc_reg ?_)
  refine G1 F6 tt tt tt tt ⟨?_⟩
  refine lavc_bld 1 5 rfl rfl ?_
  obtain ⟨V, hV⟩ : ∃ V, textR s = V := ⟨_, rfl⟩
  have hV' : textP (s.1.length + 2) [] s = V := hV
  rw [hV]
  refine G1 F1 tt tt tt tt ⟨?_⟩
  refine lavc_loopM ms41_0 (fun m (x : Nat × Nat × List UInt8 × St) => m = x.1 ∧ (x.2.2.2.2 = 0 → x.2.2.2.1.length + 2 ≤ x.1) ∧ 1 ≤ x.1 ∧ x.2.2.1.length + 4 * x.2.2.2.1.length ≤ 4000000 ∧ textP x.1 x.2.2.1 x.2.2.2 = V) (fun _ => [])
    (fun x => [RB x.2.2.2, ⟨[.bad 1 0, .bsl 2 x.2.1 x.2.2.1.length], 0, true, 59⟩, ⟨ints .u8 (bytesOf (bs x.2.2.1)), x.2.1, true, 5⟩]) (s.1.length + 2) (s.1.length + 2, 0, [], s) ⟨rfl, fun _ => Nat.le_refl _, by omega, by simp; omega, hV'⟩ ?_ rfl ?_
  · refine ALe.mk ?_
    simp only [ms41_0, putAll, blank, List.foldl_cons, List.foldl_nil, List.set_cons_succ, List.set_cons_zero, List.cons_append, List.nil_append, ALe0, true_or, or_true, and_true, true_and, eq_self, reduceCtorEq, false_or]
    try rfl
  rintro m ⟨k, v, acc, l, f⟩ ⟨rfl, h0, h1, hN, hi⟩
  simp only at h0 h1 hN hi ⊢
  obtain ⟨k, rfl⟩ : ∃ k', m = k' + 1 := ⟨m - 1, by omega⟩
  try unfold ms41_0
  refine M1 tt ⟨?_⟩
  rw [textP] at hi
  by_cases hf : f ≠ 0
  · rw [if_pos hf] at hi
    subst hi
    have q0 : ((f : Int) == 0) = false := by rw [beq_eq_false_iff_ne, ne_eq]; omega
    refine G1 F4 (an q0 tt) tt tt tt ⟨?_⟩
    refine R1 tt ⟨?_⟩
    exact end1 (NR.v _) rfl (RB.nr _) rfl
  have hf : f = 0 := Classical.byContradiction hf
  subst hf
  have h0 := h0 rfl
  rw [if_neg (by simp)] at hi
  have ip := idxf_p l
  have hr := Lib.idxFunc_range pq true (bs l)
  rw [bs_size] at hr
  simp only at hi
  obtain ⟨i, hix⟩ : ∃ i, Lib.idxFunc pq true (bs l) = i := ⟨_, rfl⟩
  rw [hix] at ip hr hi
  have gm := give_m 2 (l, 0)
  by_cases hi0 : i < 0
  · rw [if_pos hi0] at hi
    subst hi
    have d1 : decide (i < 0) = true := by rw [decide_eq_true_eq]; omega
    refine G1 F4 (an d1 tt) (an ip.go tt) (an gm.go tt) tt ⟨?_⟩
    refine R1 tt ⟨?_⟩
    exact end1 (NR.v _) rfl (RB.nr _) rfl
  rw [if_neg hi0] at hi
  have d1 : decide (i < 0) = false := by rw [decide_eq_false_iff_not]; omega
  obtain ⟨n, rfl⟩ := Int.eq_ofNat_of_zero_le (show 0 ≤ i by omega)
  rw [Int.toNat_natCast] at hi
  have hnl : n < l.length := by omega
  have hl2 : l.drop n ≠ [] := fun e => by
    have := congrArg List.length e
    rw [List.length_drop] at this
    simp at this
    omega
  have dp := dec_p (l.drop n)
  have df := dec_fit (l.drop n) hl2
  have ltn : (l.take n).length = n := by rw [List.length_take]; omega
  have ldn : (l.drop n).length = l.length - n := List.length_drop
  have ba := bytes_app acc
  have bl1 := bytes_len acc
  have ba2 := bytes_app (acc ++ l.take n)
  have bl2 := bytes_len (acc ++ l.take n)
  have al : (acc ++ l.take n).length = acc.length + n := by rw [List.length_append, ltn]
  obtain ⟨l2, hl2'⟩ : ∃ l2, l.drop n = l2 := ⟨_, rfl⟩
  obtain ⟨t, ht⟩ : ∃ t, l.take n = t := ⟨_, rfl⟩
  rw [hl2'] at dp df ldn hi hl2
  rw [ht] at ltn ba2 bl2 al hi
  obtain ⟨⟨c, w⟩, hd⟩ : ∃ d, Lib.decodeGo (bs l2) = d := ⟨_, rfl⟩
  rw [hd] at dp df hi
  simp only at dp df hi
  have hw1 : (bytesOf (bs acc)).length + (bs t).size ≤ 140737488355328 := by rw [← bl1, bs_size]; omega
  by_cases hc1 : c = 65533 ∧ 1 < w
  · rw [if_pos hc1] at hi
    have q1 : (((c : Nat) : Int) == 65533) = true := by rw [hc1.1]; rfl
    have q2 : decide ((w : Int) > 1) = true := by rw [decide_eq_true_eq]; omega
    have ltw : (l2.take w).length = w := by rw [List.length_take]; omega
    have ldw : (l2.drop w).length = l2.length - w := List.length_drop
    have al3 : (acc ++ t ++ l2.take w).length = acc.length + n + w := by rw [List.length_append, al, ltw]
    have hw2 : (bytesOf (bs (acc ++ t))).length + (bs (l2.take w)).size ≤ 140737488355328 := by rw [← bl2, bs_size]; omega
    repeat (first
      | (with_reducible refine lops_step fun K hK => ?_; simp (disch := first | exact dch | fail) only [go_sem, Nat.reduceAdd, Nat.reduceSub, reduceIte, Nat.reduceEqDiff, Int.reduceToNat, Int.reduceBEq, Int.reduceBNe, d1, ltn, ltw, ldn, q1, q2, hl2', ht, ba, ba2]; (try (first | (refine And.intro (fun _ => ?_) (fun h => absurd h (by decide))) | (refine And.intro (fun h => absurd h (by decide)) (fun _ => ?_)))); (repeat (with_reducible refine And.intro acl ?_)); (first | (refine hK _ _ ?_) | (refine ⟨_, rfl, hK _ _ ?_⟩) | (refine Or.inl (hK _ _ ?_)) | (refine ⟨_, _, Or.inl (ip.go _), (by first | exact ⟨[], (List.append_nil _).symm⟩ | exact ⟨_, rfl⟩), hK _ _ ?_⟩) | (refine ⟨_, _, Or.inl (ip.go _), hK _ _ ?_⟩) | (refine ⟨_, _, Or.inl (ip.go _).weakQ, hK _ _ ?_⟩) | (refine ⟨_, _, Or.inl (dp.go _), (by first | exact ⟨[], (List.append_nil _).symm⟩ | exact ⟨_, rfl⟩), hK _ _ ?_⟩) | (refine ⟨_, _, Or.inl (dp.go _), hK _ _ ?_⟩) | (refine ⟨_, _, Or.inl (dp.go _).weakQ, hK _ _ ?_⟩) | (refine ⟨_, _, Or.inl ((WriteString_a (b := 1) (b1 := 2) (acc := bytesOf (bs acc)) rfl rfl bl1 hw1)), (by first | exact ⟨[], (List.append_nil _).symm⟩ | exact ⟨_, rfl⟩), hK _ _ ?_⟩) | (refine ⟨_, _, Or.inl ((WriteString_a (b := 1) (b1 := 2) (acc := bytesOf (bs acc)) rfl rfl bl1 hw1)), hK _ _ ?_⟩) | (refine ⟨_, _, Or.inl ((WriteString_a (b := 1) (b1 := 2) (acc := bytesOf (bs acc)) rfl rfl bl1 hw1)).weakQ, hK _ _ ?_⟩) | (refine ⟨_, _, Or.inl ((WriteString_a (b := 1) (b1 := 2) (acc := bytesOf (bs (acc ++ t))) rfl rfl (by rw [← bl2, al]) hw2)), (by first | exact ⟨[], (List.append_nil _).symm⟩ | exact ⟨_, rfl⟩), hK _ _ ?_⟩) | (refine ⟨_, _, Or.inl ((WriteString_a (b := 1) (b1 := 2) (acc := bytesOf (bs (acc ++ t))) rfl rfl (by rw [← bl2, al]) hw2)), hK _ _ ?_⟩) | (refine ⟨_, _, Or.inl ((WriteString_a (b := 1) (b1 := 2) (acc := bytesOf (bs (acc ++ t))) rfl rfl (by rw [← bl2, al]) hw2)).weakQ, hK _ _ ?_⟩)); clear hK K)
      | (with_reducible refine lops_nil ?_)
      | (with_reducible first | refine lavc_reg ?_ | refine lavc_seq ?_ | refine lavc_block ?_ | refine lavc_skip ?_ | refine lavc_exit ?_ | refine lavc_ret ?_ | refine lavcR_round ?_)
      | (refine lavc_cond rfl (fun _ => ?_) (fun hc => absurd hc (by decide)))
      | (refine lavc_cond rfl (fun hc => absurd hc (by decide)) (fun _ => ?_))
      | (simp only [↓reduceIte, Nat.reduceEqDiff, reduceCtorEq]))
    refine ⟨k, (k, v + 1 + 1, acc ++ t ++ l2.take w, l2.drop w, 0), by omega, ⟨rfl, fun _ => by show (l2.drop w).length + 2 ≤ k; omega, by show 1 ≤ k; omega, by show (acc ++ t ++ l2.take w).length + 4 * (l2.drop w).length ≤ 4000000; omega, hi⟩, ?_, ?_⟩
    · try unfold ms41_0
      exact A0 tt
    · simp only [al3]
  rw [if_neg hc1] at hi
  have hq : ∃ a : Bool, (((c : Nat) : Int) == 65533) = a := ⟨_, rfl⟩
  obtain ⟨a, hqa⟩ := hq
  have hq2 : a = true → decide ((w : Int) > 1) = false := fun ha => by
    subst ha
    rw [decide_eq_false_iff_not]
    intro h
    rw [beq_iff_eq] at hqa
    exact hc1 ⟨by omega, by omega⟩
  by_cases h34 : ([34] : List UInt8).isPrefixOf l2 = true
  · rw [if_pos h34] at hi
    subst hi
    have t34 : MCall Tryd.prog glob 40 [.v (.string ⟨#[34]⟩)] (RB (l2, 0)) (.v (.bool true)) (RB (l2.drop 1, 0)) := take_y [34] l2 0 h34
    have sb := str_bytes (bs (acc ++ t))
    have hu8 := bytes_u8 (bs (acc ++ t))
    have hw3 : (bytesOf (bs (acc ++ t))).length ≤ 9223372036854775807 := by rw [← bl2]; omega
    cases a
    · repeat (first
        | (with_reducible refine lops_step fun K hK => ?_; simp (disch := first | exact dch | fail) only [go_sem, Nat.reduceAdd, Nat.reduceSub, reduceIte, Nat.reduceEqDiff, Int.reduceToNat, Int.reduceBEq, Int.reduceBNe, d1, ltn, ldn, hqa, hl2', ht, ba, al, sb]; (try (first | (refine And.intro (fun _ => ?_) (fun h => absurd h (by decide))) | (refine And.intro (fun h => absurd h (by decide)) (fun _ => ?_)))); (repeat (with_reducible refine And.intro acl ?_)); (first | (refine hK _ _ ?_) | (refine ⟨_, rfl, hK _ _ ?_⟩) | (refine Or.inl (hK _ _ ?_)) | (refine ⟨_, _, Or.inl (ip.go _), (by first | exact ⟨[], (List.append_nil _).symm⟩ | exact ⟨_, rfl⟩), hK _ _ ?_⟩) | (refine ⟨_, _, Or.inl (ip.go _), hK _ _ ?_⟩) | (refine ⟨_, _, Or.inl (ip.go _).weakQ, hK _ _ ?_⟩) | (refine ⟨_, _, Or.inl (dp.go _), (by first | exact ⟨[], (List.append_nil _).symm⟩ | exact ⟨_, rfl⟩), hK _ _ ?_⟩) | (refine ⟨_, _, Or.inl (dp.go _), hK _ _ ?_⟩) | (refine ⟨_, _, Or.inl (dp.go _).weakQ, hK _ _ ?_⟩) | (refine ⟨_, _, Or.inl (t34.go _ _ rfl), (by first | exact ⟨[], (List.append_nil _).symm⟩ | exact ⟨_, rfl⟩), hK _ _ ?_⟩) | (refine ⟨_, _, Or.inl (t34.go _ _ rfl), hK _ _ ?_⟩) | (refine ⟨_, _, Or.inl (t34.go _ _ rfl).weakQ, hK _ _ ?_⟩) | (refine ⟨_, _, Or.inl ((WriteString_a (b := 1) (b1 := 2) (acc := bytesOf (bs acc)) rfl rfl bl1 hw1)), (by first | exact ⟨[], (List.append_nil _).symm⟩ | exact ⟨_, rfl⟩), hK _ _ ?_⟩) | (refine ⟨_, _, Or.inl ((WriteString_a (b := 1) (b1 := 2) (acc := bytesOf (bs acc)) rfl rfl bl1 hw1)), hK _ _ ?_⟩) | (refine ⟨_, _, Or.inl ((WriteString_a (b := 1) (b1 := 2) (acc := bytesOf (bs acc)) rfl rfl bl1 hw1)).weakQ, hK _ _ ?_⟩) | (refine ⟨_, _, Or.inl ((String_a (b := 1) (b1 := 2) (acc := bytesOf (bs (acc ++ t))) rfl rfl (by rw [← bl2, al]) hw3 hu8)), (by first | exact ⟨[], (List.append_nil _).symm⟩ | exact ⟨_, rfl⟩), hK _ _ ?_⟩) | (refine ⟨_, _, Or.inl ((String_a (b := 1) (b1 := 2) (acc := bytesOf (bs (acc ++ t))) rfl rfl (by rw [← bl2, al]) hw3 hu8)), hK _ _ ?_⟩) | (refine ⟨_, _, Or.inl ((String_a (b := 1) (b1 := 2) (acc := bytesOf (bs (acc ++ t))) rfl rfl (by rw [← bl2, al]) hw3 hu8)).weakQ, hK _ _ ?_⟩)); clear hK K)
        | (with_reducible refine lops_nil ?_)
        | (with_reducible first | refine lavc_reg ?_ | refine lavc_seq ?_ | refine lavc_block ?_ | refine lavc_skip ?_ | refine lavc_exit ?_ | refine lavc_ret ?_ | refine lavcR_round ?_)
        | (refine lavc_cond rfl (fun _ => ?_) (fun hc => absurd hc (by decide)))
        | (refine lavc_cond rfl (fun hc => absurd hc (by decide)) (fun _ => ?_))
        | (simp only [↓reduceIte, Nat.reduceEqDiff, reduceCtorEq]))
      refine R1 tt ⟨?_⟩
      exact end1 (NR.v _) rfl (RB.nr _) rfl
    · have q2 := hq2 rfl
      repeat (first
        | (with_reducible refine lops_step fun K hK => ?_; simp (disch := first | exact dch | fail) only [go_sem, Nat.reduceAdd, Nat.reduceSub, reduceIte, Nat.reduceEqDiff, Int.reduceToNat, Int.reduceBEq, Int.reduceBNe, d1, ltn, ldn, hqa, q2, hl2', ht, ba, al, sb]; (try (first | (refine And.intro (fun _ => ?_) (fun h => absurd h (by decide))) | (refine And.intro (fun h => absurd h (by decide)) (fun _ => ?_)))); (repeat (with_reducible refine And.intro acl ?_)); (first | (refine hK _ _ ?_) | (refine ⟨_, rfl, hK _ _ ?_⟩) | (refine Or.inl (hK _ _ ?_)) | (refine ⟨_, _, Or.inl (ip.go _), (by first | exact ⟨[], (List.append_nil _).symm⟩ | exact ⟨_, rfl⟩), hK _ _ ?_⟩) | (refine ⟨_, _, Or.inl (ip.go _), hK _ _ ?_⟩) | (refine ⟨_, _, Or.inl (ip.go _).weakQ, hK _ _ ?_⟩) | (refine ⟨_, _, Or.inl (dp.go _), (by first | exact ⟨[], (List.append_nil _).symm⟩ | exact ⟨_, rfl⟩), hK _ _ ?_⟩) | (refine ⟨_, _, Or.inl (dp.go _), hK _ _ ?_⟩) | (refine ⟨_, _, Or.inl (dp.go _).weakQ, hK _ _ ?_⟩) | (refine ⟨_, _, Or.inl (t34.go _ _ rfl), (by first | exact ⟨[], (List.append_nil _).symm⟩ | exact ⟨_, rfl⟩), hK _ _ ?_⟩) | (refine ⟨_, _, Or.inl (t34.go _ _ rfl), hK _ _ ?_⟩) | (refine ⟨_, _, Or.inl (t34.go _ _ rfl).weakQ, hK _ _ ?_⟩) | (refine ⟨_, _, Or.inl ((WriteString_a (b := 1) (b1 := 2) (acc := bytesOf (bs acc)) rfl rfl bl1 hw1)), (by first | exact ⟨[], (List.append_nil _).symm⟩ | exact ⟨_, rfl⟩), hK _ _ ?_⟩) | (refine ⟨_, _, Or.inl ((WriteString_a (b := 1) (b1 := 2) (acc := bytesOf (bs acc)) rfl rfl bl1 hw1)), hK _ _ ?_⟩) | (refine ⟨_, _, Or.inl ((WriteString_a (b := 1) (b1 := 2) (acc := bytesOf (bs acc)) rfl rfl bl1 hw1)).weakQ, hK _ _ ?_⟩) | (refine ⟨_, _, Or.inl ((String_a (b := 1) (b1 := 2) (acc := bytesOf (bs (acc ++ t))) rfl rfl (by rw [← bl2, al]) hw3 hu8)), (by first | exact ⟨[], (List.append_nil _).symm⟩ | exact ⟨_, rfl⟩), hK _ _ ?_⟩) | (refine ⟨_, _, Or.inl ((String_a (b := 1) (b1 := 2) (acc := bytesOf (bs (acc ++ t))) rfl rfl (by rw [← bl2, al]) hw3 hu8)), hK _ _ ?_⟩) | (refine ⟨_, _, Or.inl ((String_a (b := 1) (b1 := 2) (acc := bytesOf (bs (acc ++ t))) rfl rfl (by rw [← bl2, al]) hw3 hu8)).weakQ, hK _ _ ?_⟩)); clear hK K)
        | (with_reducible refine lops_nil ?_)
        | (with_reducible first | refine lavc_reg ?_ | refine lavc_seq ?_ | refine lavc_block ?_ | refine lavc_skip ?_ | refine lavc_exit ?_ | refine lavc_ret ?_ | refine lavcR_round ?_)
        | (refine lavc_cond rfl (fun _ => ?_) (fun hc => absurd hc (by decide)))
        | (refine lavc_cond rfl (fun hc => absurd hc (by decide)) (fun _ => ?_))
        | (simp only [↓reduceIte, Nat.reduceEqDiff, reduceCtorEq]))
      refine R1 tt ⟨?_⟩
      exact end1 (NR.v _) rfl (RB.nr _) rfl
  have h34 : ([34] : List UInt8).isPrefixOf l2 = false := Bool.eq_false_iff.2 h34
  rw [h34, if_neg (by decide)] at hi
  have t34 : MCall Tryd.prog glob 40 [.v (.string ⟨#[34]⟩)] (RB (l2, 0)) (.v (.bool false)) (RB (l2, 0)) := take_n [34] l2 0 h34
  by_cases h92 : ([92] : List UInt8).isPrefixOf l2 = true
  · rw [if_pos h92] at hi
    have t92 : MCall Tryd.prog glob 40 [.v (.string ⟨#[92]⟩)] (RB (l2, 0)) (.v (.bool true)) (RB (l2.drop 1, 0)) := take_y [92] l2 0 h92
    have ld1 : (l2.drop 1).length = l2.length - 1 := List.length_drop
    have em := escape_m (l2.drop 1, 0) (by show (l2.drop 1).length ≤ 1000000; omega)
    have ez := esc_len (l2.drop 1, 0)
    obtain ⟨⟨E, l3, f3⟩, hE⟩ : ∃ y, escP (l2.drop 1, 0) = y := ⟨_, rfl⟩
    rw [hE] at em ez hi
    simp only at em ez hi
    have ez2 : l3.length ≤ l2.length - 1 := by have := ez.2; rw [ld1] at this; exact this
    have blE : (bl E).length = E.size := Array.length_toList
    have hw2 : (bytesOf (bs (acc ++ t))).length + E.size ≤ 140737488355328 := by rw [← bl2]; omega
    have ba3 : bytesOf (bs (acc ++ t)) ++ bytesOf E = bytesOf (bs (acc ++ t ++ bl E)) := ba2 (bl E)
    have al3 : (acc ++ t ++ bl E).length = acc.length + n + E.size := by rw [List.length_append, al, blE]
    cases a
    · repeat (first
        | (with_reducible refine lops_step fun K hK => ?_; simp (disch := first | exact dch | fail) only [go_sem, Nat.reduceAdd, Nat.reduceSub, reduceIte, Nat.reduceEqDiff, Int.reduceToNat, Int.reduceBEq, Int.reduceBNe, d1, ltn, ldn, hqa, hl2', ht, ba, ba3]; (try (first | (refine And.intro (fun _ => ?_) (fun h => absurd h (by decide))) | (refine And.intro (fun h => absurd h (by decide)) (fun _ => ?_)))); (repeat (with_reducible refine And.intro acl ?_)); (first | (refine hK _ _ ?_) | (refine ⟨_, rfl, hK _ _ ?_⟩) | (refine Or.inl (hK _ _ ?_)) | (refine ⟨_, _, Or.inl (ip.go _), (by first | exact ⟨[], (List.append_nil _).symm⟩ | exact ⟨_, rfl⟩), hK _ _ ?_⟩) | (refine ⟨_, _, Or.inl (ip.go _), hK _ _ ?_⟩) | (refine ⟨_, _, Or.inl (ip.go _).weakQ, hK _ _ ?_⟩) | (refine ⟨_, _, Or.inl (dp.go _), (by first | exact ⟨[], (List.append_nil _).symm⟩ | exact ⟨_, rfl⟩), hK _ _ ?_⟩) | (refine ⟨_, _, Or.inl (dp.go _), hK _ _ ?_⟩) | (refine ⟨_, _, Or.inl (dp.go _).weakQ, hK _ _ ?_⟩) | (refine ⟨_, _, Or.inl (t34.go _ _ rfl), (by first | exact ⟨[], (List.append_nil _).symm⟩ | exact ⟨_, rfl⟩), hK _ _ ?_⟩) | (refine ⟨_, _, Or.inl (t34.go _ _ rfl), hK _ _ ?_⟩) | (refine ⟨_, _, Or.inl (t34.go _ _ rfl).weakQ, hK _ _ ?_⟩) | (refine ⟨_, _, Or.inl (t92.go _ _ rfl), (by first | exact ⟨[], (List.append_nil _).symm⟩ | exact ⟨_, rfl⟩), hK _ _ ?_⟩) | (refine ⟨_, _, Or.inl (t92.go _ _ rfl), hK _ _ ?_⟩) | (refine ⟨_, _, Or.inl (t92.go _ _ rfl).weakQ, hK _ _ ?_⟩) | (refine ⟨_, _, Or.inl (em.go _ _ rfl), (by first | exact ⟨[], (List.append_nil _).symm⟩ | exact ⟨_, rfl⟩), hK _ _ ?_⟩) | (refine ⟨_, _, Or.inl (em.go _ _ rfl), hK _ _ ?_⟩) | (refine ⟨_, _, Or.inl (em.go _ _ rfl).weakQ, hK _ _ ?_⟩) | (refine ⟨_, _, Or.inl ((WriteString_a (b := 1) (b1 := 2) (acc := bytesOf (bs acc)) rfl rfl bl1 hw1)), (by first | exact ⟨[], (List.append_nil _).symm⟩ | exact ⟨_, rfl⟩), hK _ _ ?_⟩) | (refine ⟨_, _, Or.inl ((WriteString_a (b := 1) (b1 := 2) (acc := bytesOf (bs acc)) rfl rfl bl1 hw1)), hK _ _ ?_⟩) | (refine ⟨_, _, Or.inl ((WriteString_a (b := 1) (b1 := 2) (acc := bytesOf (bs acc)) rfl rfl bl1 hw1)).weakQ, hK _ _ ?_⟩) | (refine ⟨_, _, Or.inl ((WriteString_a (b := 1) (b1 := 2) (acc := bytesOf (bs (acc ++ t))) rfl rfl (by rw [← bl2, al]) hw2)), (by first | exact ⟨[], (List.append_nil _).symm⟩ | exact ⟨_, rfl⟩), hK _ _ ?_⟩) | (refine ⟨_, _, Or.inl ((WriteString_a (b := 1) (b1 := 2) (acc := bytesOf (bs (acc ++ t))) rfl rfl (by rw [← bl2, al]) hw2)), hK _ _ ?_⟩) | (refine ⟨_, _, Or.inl ((WriteString_a (b := 1) (b1 := 2) (acc := bytesOf (bs (acc ++ t))) rfl rfl (by rw [← bl2, al]) hw2)).weakQ, hK _ _ ?_⟩)); clear hK K)
        | (with_reducible refine lops_nil ?_)
        | (with_reducible first | refine lavc_reg ?_ | refine lavc_seq ?_ | refine lavc_block ?_ | refine lavc_skip ?_ | refine lavc_exit ?_ | refine lavc_ret ?_ | refine lavcR_round ?_)
        | (refine lavc_cond rfl (fun _ => ?_) (fun hc => absurd hc (by decide)))
        | (refine lavc_cond rfl (fun hc => absurd hc (by decide)) (fun _ => ?_))
        | (simp only [↓reduceIte, Nat.reduceEqDiff, reduceCtorEq]))
      refine ⟨k, (k, v + 1 + 1, acc ++ t ++ bl E, l3, f3), by omega, ⟨rfl, fun _ => by show l3.length + 2 ≤ k; omega, by show 1 ≤ k; omega, by show (acc ++ t ++ bl E).length + 4 * l3.length ≤ 4000000; omega, hi⟩, ?_, ?_⟩
      · try unfold ms41_0
        exact A0 tt
      · simp only [al3, ← ba3]
        rfl
    · have q2 := hq2 rfl
      repeat (first
        | (with_reducible refine lops_step fun K hK => ?_; simp (disch := first | exact dch | fail) only [go_sem, Nat.reduceAdd, Nat.reduceSub, reduceIte, Nat.reduceEqDiff, Int.reduceToNat, Int.reduceBEq, Int.reduceBNe, d1, ltn, ldn, hqa, q2, hl2', ht, ba, ba3]; (try (first | (refine And.intro (fun _ => ?_) (fun h => absurd h (by decide))) | (refine And.intro (fun h => absurd h (by decide)) (fun _ => ?_)))); (repeat (with_reducible refine And.intro acl ?_)); (first | (refine hK _ _ ?_) | (refine ⟨_, rfl, hK _ _ ?_⟩) | (refine Or.inl (hK _ _ ?_)) | (refine ⟨_, _, Or.inl (ip.go _), (by first | exact ⟨[], (List.append_nil _).symm⟩ | exact ⟨_, rfl⟩), hK _ _ ?_⟩) | (refine ⟨_, _, Or.inl (ip.go _), hK _ _ ?_⟩) | (refine ⟨_, _, Or.inl (ip.go _).weakQ, hK _ _ ?_⟩) | (refine ⟨_, _, Or.inl (dp.go _), (by first | exact ⟨[], (List.append_nil _).symm⟩ | exact ⟨_, rfl⟩), hK _ _ ?_⟩) | (refine ⟨_, _, Or.inl (dp.go _), hK _ _ ?_⟩) | (refine ⟨_, _, Or.inl (dp.go _).weakQ, hK _ _ ?_⟩) | (refine ⟨_, _, Or.inl (t34.go _ _ rfl), (by first | exact ⟨[], (List.append_nil _).symm⟩ | exact ⟨_, rfl⟩), hK _ _ ?_⟩) | (refine ⟨_, _, Or.inl (t34.go _ _ rfl), hK _ _ ?_⟩) | (refine ⟨_, _, Or.inl (t34.go _ _ rfl).weakQ, hK _ _ ?_⟩) | (refine ⟨_, _, Or.inl (t92.go _ _ rfl), (by first | exact ⟨[], (List.append_nil _).symm⟩ | exact ⟨_, rfl⟩), hK _ _ ?_⟩) | (refine ⟨_, _, Or.inl (t92.go _ _ rfl), hK _ _ ?_⟩) | (refine ⟨_, _, Or.inl (t92.go _ _ rfl).weakQ, hK _ _ ?_⟩) | (refine ⟨_, _, Or.inl (em.go _ _ rfl), (by first | exact ⟨[], (List.append_nil _).symm⟩ | exact ⟨_, rfl⟩), hK _ _ ?_⟩) | (refine ⟨_, _, Or.inl (em.go _ _ rfl), hK _ _ ?_⟩) | (refine ⟨_, _, Or.inl (em.go _ _ rfl).weakQ, hK _ _ ?_⟩) | (refine ⟨_, _, Or.inl ((WriteString_a (b := 1) (b1 := 2) (acc := bytesOf (bs acc)) rfl rfl bl1 hw1)), (by first | exact ⟨[], (List.append_nil _).symm⟩ | exact ⟨_, rfl⟩), hK _ _ ?_⟩) | (refine ⟨_, _, Or.inl ((WriteString_a (b := 1) (b1 := 2) (acc := bytesOf (bs acc)) rfl rfl bl1 hw1)), hK _ _ ?_⟩) | (refine ⟨_, _, Or.inl ((WriteString_a (b := 1) (b1 := 2) (acc := bytesOf (bs acc)) rfl rfl bl1 hw1)).weakQ, hK _ _ ?_⟩) | (refine ⟨_, _, Or.inl ((WriteString_a (b := 1) (b1 := 2) (acc := bytesOf (bs (acc ++ t))) rfl rfl (by rw [← bl2, al]) hw2)), (by first | exact ⟨[], (List.append_nil _).symm⟩ | exact ⟨_, rfl⟩), hK _ _ ?_⟩) | (refine ⟨_, _, Or.inl ((WriteString_a (b := 1) (b1 := 2) (acc := bytesOf (bs (acc ++ t))) rfl rfl (by rw [← bl2, al]) hw2)), hK _ _ ?_⟩) | (refine ⟨_, _, Or.inl ((WriteString_a (b := 1) (b1 := 2) (acc := bytesOf (bs (acc ++ t))) rfl rfl (by rw [← bl2, al]) hw2)).weakQ, hK _ _ ?_⟩)); clear hK K)
        | (with_reducible refine lops_nil ?_)
        | (with_reducible first | refine lavc_reg ?_ | refine lavc_seq ?_ | refine lavc_block ?_ | refine lavc_skip ?_ | refine lavc_exit ?_ | refine lavc_ret ?_ | refine lavcR_round ?_)
        | (refine lavc_cond rfl (fun _ => ?_) (fun hc => absurd hc (by decide)))
        | (refine lavc_cond rfl (fun hc => absurd hc (by decide)) (fun _ => ?_))
        | (simp only [↓reduceIte, Nat.reduceEqDiff, reduceCtorEq]))
      refine ⟨k, (k, v + 1 + 1, acc ++ t ++ bl E, l3, f3), by omega, ⟨rfl, fun _ => by show l3.length + 2 ≤ k; omega, by show 1 ≤ k; omega, by show (acc ++ t ++ bl E).length + 4 * l3.length ≤ 4000000; omega, hi⟩, ?_, ?_⟩
      · try unfold ms41_0
        exact A0 tt
      · simp only [al3, ← ba3]
        rfl
  have h92 : ([92] : List UInt8).isPrefixOf l2 = false := Bool.eq_false_iff.2 h92
  rw [h92, if_neg (by decide)] at hi
  have t92 : MCall Tryd.prog glob 40 [.v (.string ⟨#[92]⟩)] (RB (l2, 0)) (.v (.bool false)) (RB (l2, 0)) := take_n [92] l2 0 h92
  have gm2 := give_m 2 (l2, 0)
  have hg : giveP 2 (l2, 0) = ([], 2) := rfl
  rw [hg] at gm2 hi
  cases a
  · repeat (first
      | (with_reducible refine lops_step fun K hK => ?_; simp (disch := first | exact dch | fail) only [go_sem, Nat.reduceAdd, Nat.reduceSub, reduceIte, Nat.reduceEqDiff, Int.reduceToNat, Int.reduceBEq, Int.reduceBNe, d1, ltn, ldn, hqa, hl2', ht, ba]; (try (first | (refine And.intro (fun _ => ?_) (fun h => absurd h (by decide))) | (refine And.intro (fun h => absurd h (by decide)) (fun _ => ?_)))); (repeat (with_reducible refine And.intro acl ?_)); (first | (refine hK _ _ ?_) | (refine ⟨_, rfl, hK _ _ ?_⟩) | (refine Or.inl (hK _ _ ?_)) | (refine ⟨_, _, Or.inl (ip.go _), (by first | exact ⟨[], (List.append_nil _).symm⟩ | exact ⟨_, rfl⟩), hK _ _ ?_⟩) | (refine ⟨_, _, Or.inl (ip.go _), hK _ _ ?_⟩) | (refine ⟨_, _, Or.inl (ip.go _).weakQ, hK _ _ ?_⟩) | (refine ⟨_, _, Or.inl (dp.go _), (by first | exact ⟨[], (List.append_nil _).symm⟩ | exact ⟨_, rfl⟩), hK _ _ ?_⟩) | (refine ⟨_, _, Or.inl (dp.go _), hK _ _ ?_⟩) | (refine ⟨_, _, Or.inl (dp.go _).weakQ, hK _ _ ?_⟩) | (refine ⟨_, _, Or.inl (t34.go _ _ rfl), (by first | exact ⟨[], (List.append_nil _).symm⟩ | exact ⟨_, rfl⟩), hK _ _ ?_⟩) | (refine ⟨_, _, Or.inl (t34.go _ _ rfl), hK _ _ ?_⟩) | (refine ⟨_, _, Or.inl (t34.go _ _ rfl).weakQ, hK _ _ ?_⟩) | (refine ⟨_, _, Or.inl (t92.go _ _ rfl), (by first | exact ⟨[], (List.append_nil _).symm⟩ | exact ⟨_, rfl⟩), hK _ _ ?_⟩) | (refine ⟨_, _, Or.inl (t92.go _ _ rfl), hK _ _ ?_⟩) | (refine ⟨_, _, Or.inl (t92.go _ _ rfl).weakQ, hK _ _ ?_⟩) | (refine ⟨_, _, Or.inl (gm2.go _ _ rfl), (by first | exact ⟨[], (List.append_nil _).symm⟩ | exact ⟨_, rfl⟩), hK _ _ ?_⟩) | (refine ⟨_, _, Or.inl (gm2.go _ _ rfl), hK _ _ ?_⟩) | (refine ⟨_, _, Or.inl (gm2.go _ _ rfl).weakQ, hK _ _ ?_⟩) | (refine ⟨_, _, Or.inl ((WriteString_a (b := 1) (b1 := 2) (acc := bytesOf (bs acc)) rfl rfl bl1 hw1)), (by first | exact ⟨[], (List.append_nil _).symm⟩ | exact ⟨_, rfl⟩), hK _ _ ?_⟩) | (refine ⟨_, _, Or.inl ((WriteString_a (b := 1) (b1 := 2) (acc := bytesOf (bs acc)) rfl rfl bl1 hw1)), hK _ _ ?_⟩) | (refine ⟨_, _, Or.inl ((WriteString_a (b := 1) (b1 := 2) (acc := bytesOf (bs acc)) rfl rfl bl1 hw1)).weakQ, hK _ _ ?_⟩)); clear hK K)
      | (with_reducible refine lops_nil ?_)
      | (with_reducible first | refine lavc_reg ?_ | refine lavc_seq ?_ | refine lavc_block ?_ | refine lavc_skip ?_ | refine lavc_exit ?_ | refine lavc_ret ?_ | refine lavcR_round ?_)
      | (refine lavc_cond rfl (fun _ => ?_) (fun hc => absurd hc (by decide)))
      | (refine lavc_cond rfl (fun hc => absurd hc (by decide)) (fun _ => ?_))
      | (simp only [↓reduceIte, Nat.reduceEqDiff, reduceCtorEq]))
    refine ⟨k, (k, v + 1, acc ++ t, [], 2), by omega, ⟨rfl, fun h => (by cases h), by show 1 ≤ k; omega, by show (acc ++ t).length + 0 ≤ 4000000; omega, hi⟩, ?_, ?_⟩
    · try unfold ms41_0
      exact A0 tt
    · simp only [al]
      rfl
  · have q2 := hq2 rfl
    repeat (first
      | (with_reducible refine lops_step fun K hK => ?_; simp (disch := first | exact dch | fail) only [go_sem, Nat.reduceAdd, Nat.reduceSub, reduceIte, Nat.reduceEqDiff, Int.reduceToNat, Int.reduceBEq, Int.reduceBNe, d1, ltn, ldn, hqa, q2, hl2', ht, ba]; (try (first | (refine And.intro (fun _ => ?_) (fun h => absurd h (by decide))) | (refine And.intro (fun h => absurd h (by decide)) (fun _ => ?_)))); (repeat (with_reducible refine And.intro acl ?_)); (first | (refine hK _ _ ?_) | (refine ⟨_, rfl, hK _ _ ?_⟩) | (refine Or.inl (hK _ _ ?_)) | (refine ⟨_, _, Or.inl (ip.go _), (by first | exact ⟨[], (List.append_nil _).symm⟩ | exact ⟨_, rfl⟩), hK _ _ ?_⟩) | (refine ⟨_, _, Or.inl (ip.go _), hK _ _ ?_⟩) | (refine ⟨_, _, Or.inl (ip.go _).weakQ, hK _ _ ?_⟩) | (refine ⟨_, _, Or.inl (dp.go _), (by first | exact ⟨[], (List.append_nil _).symm⟩ | exact ⟨_, rfl⟩), hK _ _ ?_⟩) | (refine ⟨_, _, Or.inl (dp.go _), hK _ _ ?_⟩) | (refine ⟨_, _, Or.inl (dp.go _).weakQ, hK _ _ ?_⟩) | (refine ⟨_, _, Or.inl (t34.go _ _ rfl), (by first | exact ⟨[], (List.append_nil _).symm⟩ | exact ⟨_, rfl⟩), hK _ _ ?_⟩) | (refine ⟨_, _, Or.inl (t34.go _ _ rfl), hK _ _ ?_⟩) | (refine ⟨_, _, Or.inl (t34.go _ _ rfl).weakQ, hK _ _ ?_⟩) | (refine ⟨_, _, Or.inl (t92.go _ _ rfl), (by first | exact ⟨[], (List.append_nil _).symm⟩ | exact ⟨_, rfl⟩), hK _ _ ?_⟩) | (refine ⟨_, _, Or.inl (t92.go _ _ rfl), hK _ _ ?_⟩) | (refine ⟨_, _, Or.inl (t92.go _ _ rfl).weakQ, hK _ _ ?_⟩) | (refine ⟨_, _, Or.inl (gm2.go _ _ rfl), (by first | exact ⟨[], (List.append_nil _).symm⟩ | exact ⟨_, rfl⟩), hK _ _ ?_⟩) | (refine ⟨_, _, Or.inl (gm2.go _ _ rfl), hK _ _ ?_⟩) | (refine ⟨_, _, Or.inl (gm2.go _ _ rfl).weakQ, hK _ _ ?_⟩) | (refine ⟨_, _, Or.inl ((WriteString_a (b := 1) (b1 := 2) (acc := bytesOf (bs acc)) rfl rfl bl1 hw1)), (by first | exact ⟨[], (List.append_nil _).symm⟩ | exact ⟨_, rfl⟩), hK _ _ ?_⟩) | (refine ⟨_, _, Or.inl ((WriteString_a (b := 1) (b1 := 2) (acc := bytesOf (bs acc)) rfl rfl bl1 hw1)), hK _ _ ?_⟩) | (refine ⟨_, _, Or.inl ((WriteString_a (b := 1) (b1 := 2) (acc := bytesOf (bs acc)) rfl rfl bl1 hw1)).weakQ, hK _ _ ?_⟩)); clear hK K)
      | (with_reducible refine lops_nil ?_)
      | (with_reducible first | refine lavc_reg ?_ | refine lavc_seq ?_ | refine lavc_block ?_ | refine lavc_skip ?_ | refine lavc_exit ?_ | refine lavc_ret ?_ | refine lavcR_round ?_)
      | (refine lavc_cond rfl (fun _ => ?_) (fun hc => absurd hc (by decide)))
      | (refine lavc_cond rfl (fun hc => absurd hc (by decide)) (fun _ => ?_))
      | (simp only [↓reduceIte, Nat.reduceEqDiff, reduceCtorEq]))
    refine ⟨k, (k, v + 1, acc ++ t, [], 2), by omega, ⟨rfl, fun h => (by cases h), by show 1 ≤ k; omega, by show (acc ++ t).length + 0 ≤ 4000000; omega, hi⟩, ?_, ?_⟩
    · try unfold ms41_0
      exact A0 tt
    · simp only [al]
      rfl
end Go.Abs.S
namespace Go.Abs.S
attribute [local go_sem] lguard aopO aop aenv toAV tput aLoad aStore vcells aBin aNilI aUn aAlloc aBox aBuild aBSlice afill aConv isIntT aappZ aCap aArr aMM aMake aSlice bnd3 bnd aFldAddr aFld aIdxAddr aIdx aExt aLen aCopy aEq0 bAV aUb aapp aappQ agh acont List.getD_cons_zero List.getD_cons_succ List.set_cons_zero List.set_cons_succ List.getElem?_cons_zero List.getElem?_cons_succ List.length_cons List.length_nil List.map_cons List.map_nil ints_length if_true if_false Bool.false_eq_true true_and and_true eq_self ne_eq not_false_eq_true not_true_eq_false beq_self_eq_true Nat.zero_add Nat.add_zero Nat.mul_one Nat.zero_mul Int.toNat_natCast List.toList_toArray List.all_cons List.all_nil AV.one Value.oneCell' Bool.and_true Bool.true_and forall_const true_implies false_implies implies_true Option.map_some Option.map_none Option.isSome_some Option.isSome_none imp_self rdP_flat rdP_row splice_one ints_set ints_get List.append_nil List.cons_append List.nil_append List.getElem?_toArray List.drop_zero ints_drop ints_take List.take_of_length_le splice_all ints_one Option.some.injEq Option.getD_some List.length_replicate zArr List.map_replicate rep_ints splice_intsR List.length_set List.length_append List.flatten_replicate_singleton rep_slice rep_string rep_bool rep_iface List.replicate_zero if_pos if_neg List.mapM_cons List.mapM_nil Option.pure_def Option.bind_eq_bind Option.bind_some Bool.true_eq_false Bool.not_false Bool.not_true get_concat set_concat
open Go.Proofs
set_option linter.unusedVariables false
set_option linter.unusedSimpArgs false
set_option maxRecDepth 100000
set_option maxHeartbeats 8000000
theorem give_len (e : Int) (s : St) : (giveP e s).1.length ≤ s.1.length := by
  unfold giveP
  split
  · exact Nat.zero_le _
  · exact Nat.le_refl _
theorem drop_len {α : Type} (p : α → Bool) : ∀ l : List α, (l.dropWhile p).length ≤ l.length
  | [] => Nat.le_refl _
  | a :: l => by
    rw [List.dropWhile_cons]
    split
    · have := drop_len p l
      rw [List.length_cons]
      omega
    · exact Nat.le_refl _
theorem blanks_len (s : St) : (blanksP s).1.length ≤ s.1.length := drop_len _ _
theorem take_len (p : List UInt8) (s : St) : (takeP p s).1.length ≤ s.1.length := by
  unfold takeP
  split
  · rw [List.length_drop]
    omega
  · exact Nat.le_refl _
theorem text_len : ∀ (n : Nat) (acc : List UInt8) (s : St), (textP n acc s).2.1.length ≤ s.1.length
  | 0, acc, s => Nat.le_refl _
  | n + 1, acc, s => by
    rw [textP]
    split
    · exact Nat.le_refl _
    split
    · exact give_len _ _
    · simp only
      have hd : ∀ i, (s.1.drop i).length ≤ s.1.length := fun i => by rw [List.length_drop]; omega
      split
      · refine Nat.le_trans (text_len n _ _) ?_
        simp only [List.length_drop]
        omega
      split
      · simp only [List.length_drop]
        omega
      split
      · refine Nat.le_trans (text_len n _ _) (Nat.le_trans (esc_len _).2 ?_)
        simp only [List.length_drop]
        omega
      · exact Nat.le_trans (text_len n _ _) (Nat.le_trans (give_len _ _) (hd _))
theorem idxL_eq (x : ByteArray) : ∀ (l : List ByteArray) (k : Nat), decide (0 ≤ idxK l x k) = idxL l x
  | [], k => rfl
  | a :: l, k => by
    rw [idxK, idxL]
    by_cases h : x = a
    · rw [if_pos h, if_pos h, decide_eq_true_eq]
      omega
    · rw [if_neg h, if_neg h, idxL_eq x l (k + 1)]
theorem takeT (p : List UInt8) (s : St) (b : Bool) (h : p.isPrefixOf s.1 = b) : MCall Tryd.prog glob 40 [.v (.string (bs p))] (RB s) (.v (.bool b)) (RB (if b = true then takeP p s else s)) := by
  have := take_m p s
  rw [h] at this
  cases b
  · have e : takeP p s = s := by
      unfold takeP
      rw [h]
      rfl
    rw [e] at this
    exact this
  · exact this
theorem name_m (l : List ByteArray) (c : Option Nat) (hl : l.length ≤ 1000) (s : St) (hs : s.1.length ≤ 1000000) :
    MCall Tryd.prog glob 55 [.vsl l.length (strs l) c] (RB s) (.v (.string (nameP l s).1)) (RB (nameP l s).2) := by
  refine MCall.of ctx.nr rfl rfl (List.forall_mem_cons.2 ⟨NR.vsl (NR.strs _), fun _ h => absurd h List.not_mem_nil⟩) (NR.v _) (RB.nr _) (RB.nr _) ?_
  refine lcall55 (by simp) 1 (Nat.le_refl _) ?_
  unfold lc55
  refine I1 tt ⟨?_⟩
  obtain ⟨V, hV⟩ : ∃ V, nameP l s = V := ⟨_, rfl⟩
  rw [hV]
  unfold nameP at hV
  simp only at hV
  have b1 := blanks_m s
  have z1 := blanks_len s
  obtain ⟨s1, hs1⟩ : ∃ x, blanksP s = x := ⟨_, rfl⟩
  rw [hs1] at b1 z1 hV
  obtain ⟨q, hq⟩ : ∃ q, ([34] : List UInt8).isPrefixOf s1.1 = q := ⟨_, rfl⟩
  rw [hq] at hV
  have t1 : MCall Tryd.prog glob 40 [.v (.string ⟨#[34]⟩)] (RB s1) (.v (.bool q)) (RB (if q = true then takeP [34] s1 else s1)) := takeT [34] s1 q hq
  have g1 := give_m 2 s1
  obtain ⟨s2, hs2⟩ : ∃ x, (if q = true then takeP [34] s1 else giveP 2 s1) = x := ⟨_, rfl⟩
  have z2 : s2.1.length ≤ s1.1.length := by
    rw [← hs2]
    split
    · exact take_len _ _
    · exact give_len _ _
  rw [hs2] at hV
  have x2 := text_m s2 (by omega)
  obtain ⟨⟨t, l3, f3⟩, hx⟩ : ∃ x, textR s2 = x := ⟨_, rfl⟩
  rw [hx] at x2 hV
  simp only at x2 hV
  have cp := contains_p l c (bs t) hl
  rw [idxL_eq] at cp
  obtain ⟨k, hk⟩ : ∃ k, idxL l (bs t) = k := ⟨_, rfl⟩
  rw [hk] at cp hV
  have g4 := give_m 10 (l3, f3)
  obtain ⟨e, he⟩ : ∃ e, (f3 == 0) = e := ⟨_, rfl⟩
  have hs4 : (if f3 = 0 ∧ k = true then giveP 10 (l3, f3) else (l3, f3)) = if (e && k) = true then giveP 10 (l3, f3) else (l3, f3) := by
    rw [← he]
    congr 1
    simp
  rw [hs4] at hV
  obtain ⟨s4, h4⟩ : ∃ x, (if (e && k) = true then giveP 10 (l3, f3) else (l3, f3)) = x := ⟨_, rfl⟩
  rw [h4] at hV
  have b4 := blanks_m s4
  obtain ⟨s5, hs5⟩ : ∃ x, blanksP s4 = x := ⟨_, rfl⟩
  rw [hs5] at b4 hV
  obtain ⟨d, hd⟩ : ∃ q, ([58] : List UInt8).isPrefixOf s5.1 = q := ⟨_, rfl⟩
  rw [hd] at hV
  have t5 : MCall Tryd.prog glob 40 [.v (.string ⟨#[58]⟩)] (RB s5) (.v (.bool d)) (RB (if d = true then takeP [58] s5 else s5)) := takeT [58] s5 d hd
  have g5 := give_m 2 s5
  subst hV
  cases q <;> cases e <;> cases k <;> cases d
  all_goals
    simp only [Bool.false_eq_true, if_false, if_true, Bool.and_true, Bool.and_false, Bool.true_and, Bool.false_and] at hs2 h4 t1 t5 ⊢
    subst hs2 h4
    repeat (first
      | (with_reducible refine lops_step fun K hK => ?_; simp (disch := first | exact dch | fail) only [go_sem, Nat.reduceAdd, Nat.reduceSub, reduceIte, Nat.reduceEqDiff, Int.reduceToNat, Int.reduceBEq, Int.reduceBNe, he, Bool.not_true, Bool.not_false]; (try (first | (refine And.intro (fun _ => ?_) (fun h => absurd h (by decide))) | (refine And.intro (fun h => absurd h (by decide)) (fun _ => ?_)))); (repeat (with_reducible refine And.intro acl ?_)); (first | (refine hK _ _ ?_) | (refine ⟨_, rfl, hK _ _ ?_⟩) | (refine Or.inl (hK _ _ ?_)) | (refine ⟨_, _, Or.inl (b1.go _ _ rfl), (by first | exact ⟨[], (List.append_nil _).symm⟩ | exact ⟨_, rfl⟩), hK _ _ ?_⟩) | (refine ⟨_, _, Or.inl (b1.go _ _ rfl), hK _ _ ?_⟩) | (refine ⟨_, _, Or.inl (b1.go _ _ rfl).weakQ, hK _ _ ?_⟩) | (refine ⟨_, _, Or.inl (t1.go _ _ rfl), (by first | exact ⟨[], (List.append_nil _).symm⟩ | exact ⟨_, rfl⟩), hK _ _ ?_⟩) | (refine ⟨_, _, Or.inl (t1.go _ _ rfl), hK _ _ ?_⟩) | (refine ⟨_, _, Or.inl (t1.go _ _ rfl).weakQ, hK _ _ ?_⟩) | (refine ⟨_, _, Or.inl (g1.go _ _ rfl), (by first | exact ⟨[], (List.append_nil _).symm⟩ | exact ⟨_, rfl⟩), hK _ _ ?_⟩) | (refine ⟨_, _, Or.inl (g1.go _ _ rfl), hK _ _ ?_⟩) | (refine ⟨_, _, Or.inl (g1.go _ _ rfl).weakQ, hK _ _ ?_⟩) | (refine ⟨_, _, Or.inl (x2.go _ _ rfl), (by first | exact ⟨[], (List.append_nil _).symm⟩ | exact ⟨_, rfl⟩), hK _ _ ?_⟩) | (refine ⟨_, _, Or.inl (x2.go _ _ rfl), hK _ _ ?_⟩) | (refine ⟨_, _, Or.inl (x2.go _ _ rfl).weakQ, hK _ _ ?_⟩) | (refine ⟨_, _, Or.inl (cp.go _), (by first | exact ⟨[], (List.append_nil _).symm⟩ | exact ⟨_, rfl⟩), hK _ _ ?_⟩) | (refine ⟨_, _, Or.inl (cp.go _), hK _ _ ?_⟩) | (refine ⟨_, _, Or.inl (cp.go _).weakQ, hK _ _ ?_⟩) | (refine ⟨_, _, Or.inl (g4.go _ _ rfl), (by first | exact ⟨[], (List.append_nil _).symm⟩ | exact ⟨_, rfl⟩), hK _ _ ?_⟩) | (refine ⟨_, _, Or.inl (g4.go _ _ rfl), hK _ _ ?_⟩) | (refine ⟨_, _, Or.inl (g4.go _ _ rfl).weakQ, hK _ _ ?_⟩) | (refine ⟨_, _, Or.inl (b4.go _ _ rfl), (by first | exact ⟨[], (List.append_nil _).symm⟩ | exact ⟨_, rfl⟩), hK _ _ ?_⟩) | (refine ⟨_, _, Or.inl (b4.go _ _ rfl), hK _ _ ?_⟩) | (refine ⟨_, _, Or.inl (b4.go _ _ rfl).weakQ, hK _ _ ?_⟩) | (refine ⟨_, _, Or.inl (t5.go _ _ rfl), (by first | exact ⟨[], (List.append_nil _).symm⟩ | exact ⟨_, rfl⟩), hK _ _ ?_⟩) | (refine ⟨_, _, Or.inl (t5.go _ _ rfl), hK _ _ ?_⟩) | (refine ⟨_, _, Or.inl (t5.go _ _ rfl).weakQ, hK _ _ ?_⟩) | (refine ⟨_, _, Or.inl (g5.go _ _ rfl), (by first | exact ⟨[], (List.append_nil _).symm⟩ | exact ⟨_, rfl⟩), hK _ _ ?_⟩) | (refine ⟨_, _, Or.inl (g5.go _ _ rfl), hK _ _ ?_⟩) | (refine ⟨_, _, Or.inl (g5.go _ _ rfl).weakQ, hK _ _ ?_⟩)); clear hK K)
      | (with_reducible refine lops_nil ?_)
      | (with_reducible first | refine lavc_reg ?_ | refine lavc_seq ?_ | refine lavc_block ?_ | refine lavc_skip ?_ | refine lavc_exit ?_ | refine lavc_ret ?_ | refine lavcR_round ?_)
      | (refine lavc_cond rfl (fun _ => ?_) (fun hc => absurd hc (by decide)))
      | (refine lavc_cond rfl (fun hc => absurd hc (by decide)) (fun _ => ?_))
      | (simp only [↓reduceIte, Nat.reduceEqDiff, reduceCtorEq]))
    refine R1 tt ⟨?_⟩
    exact end1 (NR.v _) rfl (RB.nr _) rfl
end Go.Abs.S
namespace Go.Abs
set_option linter.unusedVariables false
set_option linter.unusedSimpArgs false
variable {P : Program} {G : Glob} {σ : Sig} {H : AHeap} {w : World}
theorem afz_keep {b : Nat} {K : List AV → AHeap → Prop} : ∀ {bs : List Nat} {t : List AV} {H : AHeap}, b ∉ bs → afz bs t H K → afz bs t H fun t' H' => K t' H' ∧ H'[b]? = H[b]?
  | [], t, H, _, h => ⟨h, rfl⟩
  | c :: bs, t, H, hb, h => by
    unfold afz at h ⊢
    cases hk : H[c]? with
    | none => simp [hk] at h
    | some k =>
      simp only [hk] at h ⊢
      refine ⟨h.1, afz_mono (fun t' H' hh => ⟨hh.1, hh.2.trans ?_⟩) (afz_keep (fun hh => hb (List.mem_cons_of_mem _ hh)) h.2)⟩
      rw [List.getElem?_set_ne (fun e => hb (by rw [← e]; exact List.mem_cons_self))]
theorem MCall.live (hG : GN G) {n : FuncId} {args : List AV} {k k' : Blk} {r : AV} (bs : List Nat) {b : Nat} (hb : H[b]? = some k) (hnb : b ∉ bs) (hlv : k.live = true) (hlv' : k'.live = true) (hk : ∀ c ∈ k.cells, NR c) (fk : ∀ c ∈ k'.cells, Flat c) (fr : Flat r)
    (h : afz bs args H fun args' _ => (∀ a ∈ args', NR a) ∧ MCall P G n args' k r k') : ACall P G false n (.ptr b k.ver 0 :: args) H r (H.set b k') := by
  have hcall : Callable P n := by
    have key : ∀ {bs : List Nat} {t : List AV} {H : AHeap}, afz bs t H (fun args' _ => (∀ a ∈ args', NR a) ∧ MCall P G n args' k r k') → Callable P n := by
      intro bs
      induction bs with
      | nil => exact fun h => (h.2 [k] 0 rfl).1
      | cons b bs ih =>
        intro t H h
        unfold afz at h
        cases hk : H[b]? with
        | none => simp [hk] at h
        | some k =>
          simp only [hk] at h
          exact ih h.2
    exact key h
  refine ⟨hcall, fun σ w us hu ha rel => ?_⟩
  have hblt : b < H.length := (List.getElem?_eq_some_iff.1 hb).1
  obtain ⟨us', hus'⟩ : ∃ us' : Array Value, us' = (us.toList.drop 1).toArray := ⟨_, rfl⟩
  have hsz : us'.size = args.length := by
    rw [hus']
    simp only [List.length_cons] at hu
    simp [hu]
  have hg : ∀ j, us'.getD j undef = us.getD (j + 1) undef := fun j => by
    rw [hus']
    simp [Array.getD_eq_getD_getElem?, Nat.add_comm]
  obtain ⟨t', H', σ', ⟨⟨hn, hm⟩, hkb⟩, s', x'⟩ := afz_ok (afz_keep hnb h) (σ := σ) (a := { tmps := us', defers := [] }) (w := w) ⟨rfl, hsz, fun j hj => by
    have := ha (j + 1) (by simpa using hj)
    rw [hg j]
    simpa using this, rel⟩
  have hb' : H'[b]? = some k := hkb.trans hb
  have hro0 : ∀ B, σ.ro B → σ'.ro B := x'.ro
  let σl : Sig := ⟨fun i ver => if i = 0 then σ.ρ b ver else none, σ'.ro⟩
  have hl0 : ∀ ver, σl.ρ 0 ver = σ.ρ b ver := fun ver => by simp [σl]
  have relL : Rel G σl [k] w := by
    refine ⟨fun i k0 l g1 g2 g3 => ?_, fun b1 b2 k1 k2 l1 l2 g1 _ _ f1 _ _ _ => ?_, fun i k0 l g1 g2 g3 => ?_, s'.rel.roLt, fun i ver l g => ?_, fun g => (hG g).into (rel.glob g) hro0, fun i ver l g => ?b0⟩
    case b0 =>
      simp only [σl] at g
      split at g
      · exact rel.base0 b ver l g
      · cases g
    · have hi : i = 0 := by
        have := (List.getElem?_eq_some_iff.1 g1).1
        simpa using this
      subst hi
      simp at g1
      subst g1
      obtain ⟨C, fr, c1, c2, c3, c4, c5⟩ := rel.blk b k l hb g2 (by rw [← hl0]; exact g3)
      refine ⟨C, fr, c1, c2, c3, c4, fun j hj => ?_⟩
      obtain ⟨y, e1, e2⟩ := c5 j hj
      exact ⟨y, e1, (hk _ (by simp [List.getD_eq_getElem?_getD, hj])).into e2 hro0⟩
    · have := (List.getElem?_eq_some_iff.1 g1).1
      have := (List.getElem?_eq_some_iff.1 f1).1
      simp at *
      omega
    · have hi : i = 0 := by
        have := (List.getElem?_eq_some_iff.1 g1).1
        simpa using this
      subst hi
      simp at g1
      subst g1
      exact s'.rel.apart b k l hb' g2 (x'.ρ b k.ver l (by rw [← hl0]; exact g3))
    · simp only [σl] at g
      split at g
      · rename_i e
        subst e
        obtain ⟨k0, e1, e2⟩ := rel.fresh b ver l g
        rw [hb] at e1
        cases e1
        exact ⟨k, rfl, e2⟩
      · cases g
  have ht' : t'.length = args.length := by
    have : us'.size = t'.length := s'.size
    omega
  have argsL : ∀ j, j < (AV.ptr 0 k.ver 0 :: t').length → AR σl w ((AV.ptr 0 k.ver 0 :: t').getD j .any) (us.getD j undef) := by
    intro j hj
    cases j with
    | zero =>
      have := ha 0 (by simp)
      simp only [List.getD_cons_zero] at this ⊢
      generalize us.getD 0 undef = u0 at *
      cases this with
      | ptr hl => exact .ptr (σ := σl) (by rw [hl0]; exact hl)
    | succ j =>
      simp only [List.getD_cons_succ]
      have hj' : j < t'.length := by simpa using hj
      have := s'.tmps j hj'
      rw [hg j] at this
      exact (hn _ (by simp [List.getD_eq_getElem?_getD, hj'])).into this (fun _ h => h)
  refine ((hm [k] 0 rfl).2 σl w us (by simpa [ht'] using hu) argsL relL).mono fun e w' ⟨u, he, σ1, a1, a2, a3, _⟩ => ⟨u, he, ?_⟩
  have himg : ∀ B, Img σl [k] B → ∃ l, σ.ρ b k.ver = some l ∧ l.B = B := by
    rintro B ⟨i, k0, l, g1, g2, g3, g4⟩
    have hi : i = 0 := by
      have := (List.getElem?_eq_some_iff.1 g1).1
      simpa using this
    subst hi
    simp at g1
    subst g1
    exact ⟨l, by rw [← hl0]; exact g3, g4⟩
  have himgH : ∀ B, Img σl [k] B → Img σ H B := fun B hB => by
    obtain ⟨l, g1, g2⟩ := himg B hB
    exact ⟨b, k, l, hb, hlv, g1, g2⟩
  have hroH : ∀ B, σ.ro B → w'.heap[B]? = w.heap[B]? := fun B hB => a3.frame B (rel.roLt B hB) fun hi => by
    obtain ⟨l, g1, g2⟩ := himg B hi
    exact rel.apart b k l hb hlv g1 (g2 ▸ hB)
  let σ2 : Sig := ⟨fun b' ver => if b' = b then σ1.ρ 0 ver else σ.ρ b' ver, σ.ro⟩
  have hρ : ∀ b' ver l, σ.ρ b' ver = some l → σ2.ρ b' ver = some l := fun b' ver l hl => by
    simp only [σ2]
    by_cases e : b' = b
    · subst e
      rw [if_pos rfl]
      exact a3.ρ 0 ver l (by rw [hl0]; exact hl)
    · rw [if_neg e]
      exact hl
  have hm2 : ∀ x v, AR σ w x v → AR σ2 w' x v := fun x v h => AR.mono (σ := σ) (σ' := σ2) hρ (fun _ h => h) hroH h
  have hget : ∀ (b' : Nat) (k0 : Blk), (H.set b k')[b']? = some k0 → (b' ≠ b ∧ H[b']? = some k0) ∨ (b' = b ∧ k0 = k') := by
    intro b' k0 h
    rw [List.getElem?_set] at h
    split at h
    · rename_i e
      subst e
      try rw [if_pos hblt] at h
      exact .inr ⟨rfl, (Option.some.inj h).symm⟩
    · rename_i e
      exact .inl ⟨fun e' => e e'.symm, h⟩
  have hthe : ∀ ver l, σ2.ρ b ver = some l → σ1.ρ 0 ver = some l := fun ver l h => by
    simp only [σ2] at h
    simpa using h
  have hoth : ∀ b' ver l, b' ≠ b → σ2.ρ b' ver = some l → σ.ρ b' ver = some l := fun b' ver l hne h => by
    simp only [σ2] at h
    rwa [if_neg hne] at h
  have hfar : ∀ b' k0 l l1, b' ≠ b → H[b']? = some k0 → k0.live = true → σ.ρ b' k0.ver = some l → σ1.ρ 0 k'.ver = some l1 → l.B ≠ l1.B := by
    intro b' k0 l l1 hne g1 g2 g3 g4 e
    have hlt := rel.lt g1 g2 g3
    rcases a3.new 0 k'.ver l1 g4 with h | h | h
    · obtain ⟨k2, f1, f2, f3⟩ := a3.stay 0 k' l1 rfl hlv' h
      simp at f1
      subst f1
      rw [← f3, hl0] at h
      exact hne (rel.inj b' b k0 k l l1 g1 g2 g3 hb hlv h e)
    · omega
    · obtain ⟨l2, f1, f2⟩ := himg _ h
      exact hne (rel.inj b' b k0 k l l2 g1 g2 g3 hb hlv f1 (e.trans f2.symm))
  refine ⟨σ2, fr _ _ _ _ _ a1, ⟨?_, ?_, ?_, fun B hB => Nat.lt_of_lt_of_le (rel.roLt B hB) a3.size, ?_, fun g => hm2 _ _ (rel.glob g), fun b' ver l g => ?b0⟩, ⟨a3.os, a3.tape, a3.output, a3.size, hρ, fun _ h => h, fun B hB hn => a3.frame B hB (fun hi => hn (himgH B hi)), ?_, ?_, fun B hB => .inl hB, by simp⟩, fun h => by cases h⟩
  case b0 =>
    by_cases e : b' = b
    · subst e
      simp only [σ2, if_true] at g
      exact a2.base0 0 ver l g
    · exact rel.base0 b' ver l (hoth _ _ _ e g)
  · intro b' k0 l g1 g2 g3
    rcases hget b' k0 g1 with ⟨hne, g4⟩ | ⟨rfl, rfl⟩
    · have g5 := hoth _ _ _ hne g3
      obtain ⟨C, fr, c1, c2, c3, c4, c5⟩ := rel.blk b' k0 l g4 g2 g5
      have hkeep : w'.heap[l.B]? = w.heap[l.B]? := a3.frame _ (rel.lt g4 g2 g5) fun hi => by
        obtain ⟨l2, f1, f2⟩ := himg _ hi
        exact hne (rel.inj b' b k0 k l l2 g4 g2 g5 hb hlv f1 f2.symm)
      refine ⟨C, fr, by rw [hkeep]; exact c1, c2, c3, c4, fun j hj => ?_⟩
      obtain ⟨y, e1, e2⟩ := c5 j hj
      exact ⟨y, e1, hm2 _ _ e2⟩
    · obtain ⟨C, fr, c1, c2, c3, c4, c5⟩ := a2.blk 0 k0 l rfl g2 (hthe _ _ g3)
      refine ⟨C, fr, c1, c2, c3, c4, fun j hj => ?_⟩
      obtain ⟨y, e1, e2⟩ := c5 j hj
      exact ⟨y, e1, fk _ (by simp [List.getD_eq_getElem?_getD, hj]) _ _ _ _ _ e2⟩
  · intro b1 b2 k1 k2 l1 l2 g1 g2 g3 f1 f2 f3 ee
    rcases hget b1 k1 g1 with ⟨n1, g4⟩ | ⟨rfl, rfl⟩ <;> rcases hget b2 k2 f1 with ⟨n2, f4⟩ | ⟨rfl, rfl⟩
    · exact rel.inj b1 b2 k1 k2 l1 l2 g4 g2 (hoth _ _ _ n1 g3) f4 f2 (hoth _ _ _ n2 f3) ee
    · exact absurd ee (hfar b1 k1 l1 l2 n1 g4 g2 (hoth _ _ _ n1 g3) (hthe _ _ f3))
    · exact absurd ee.symm (hfar b2 k2 l2 l1 n2 f4 f2 (hoth _ _ _ n2 f3) (hthe _ _ g3))
    · rfl
  · intro b' k0 l g1 g2 g3 g4
    rcases hget b' k0 g1 with ⟨hne, f4⟩ | ⟨rfl, rfl⟩
    · exact rel.apart b' k0 l f4 g2 (hoth _ _ _ hne g3) g4
    · exact a2.apart 0 k0 l rfl g2 (hthe _ _ g3) (a3.ro _ (hro0 _ g4))
  · intro b' ver l h
    by_cases e : b' = b
    · subst e
      obtain ⟨k0, e1, e2⟩ := a2.fresh 0 ver l (hthe _ _ h)
      simp at e1
      subst e1
      exact ⟨_, List.getElem?_set_self hblt, e2⟩
    · obtain ⟨k0, e1, e2⟩ := rel.fresh b' ver l (hoth _ _ _ e h)
      exact ⟨k0, by rw [List.getElem?_set_ne (fun e' => e e'.symm)]; exact e1, e2⟩
  · intro b' ver l h
    by_cases e : b' = b
    · subst e
      rcases a3.new 0 ver l (hthe _ _ h) with h1 | h1 | h1
      · exact .inl (by rw [← hl0]; exact h1)
      · exact .inr (.inl h1)
      · exact .inr (.inr (himgH _ h1))
    · exact .inl (hoth _ _ _ e h)
  · intro b' k0 l g1 g2 g3
    rcases hget b' k0 g1 with ⟨hne, f4⟩ | ⟨rfl, rfl⟩
    · exact ⟨k0, f4, g2, rfl⟩
    · obtain ⟨k2, f1, f2, f3⟩ := a3.stay 0 k0 l rfl g2 (by rw [hl0]; exact g3)
      simp at f1
      subst f1
      exact ⟨_, hb, f2, f3⟩
end Go.Abs
namespace Go.Abs.S
attribute [local go_sem] lguard aopO aop aenv toAV tput aLoad aStore vcells aBin aNilI aUn aAlloc aBox aBuild aBSlice afill aConv isIntT aappZ aCap aArr aMM aMake aSlice bnd3 bnd aFldAddr aFld aIdxAddr aIdx aExt aLen aCopy aEq0 bAV aUb aapp aappQ agh acont List.getD_cons_zero List.getD_cons_succ List.set_cons_zero List.set_cons_succ List.getElem?_cons_zero List.getElem?_cons_succ List.length_cons List.length_nil List.map_cons List.map_nil ints_length if_true if_false Bool.false_eq_true true_and and_true eq_self ne_eq not_false_eq_true not_true_eq_false beq_self_eq_true Nat.zero_add Nat.add_zero Nat.mul_one Nat.zero_mul Int.toNat_natCast List.toList_toArray List.all_cons List.all_nil AV.one Value.oneCell' Bool.and_true Bool.true_and forall_const true_implies false_implies implies_true Option.map_some Option.map_none Option.isSome_some Option.isSome_none imp_self rdP_flat rdP_row splice_one ints_set ints_get List.append_nil List.cons_append List.nil_append List.getElem?_toArray List.drop_zero ints_drop ints_take List.take_of_length_le splice_all ints_one Option.some.injEq Option.getD_some List.length_replicate zArr List.map_replicate rep_ints splice_intsR List.length_set List.length_append List.flatten_replicate_singleton rep_slice rep_string rep_bool rep_iface List.replicate_zero if_pos if_neg List.mapM_cons List.mapM_nil Option.pure_def Option.bind_eq_bind Option.bind_some Bool.true_eq_false Bool.not_false Bool.not_true get_concat set_concat
open Go.Proofs
set_option linter.unusedVariables false
set_option linter.unusedSimpArgs false
set_option maxRecDepth 100000
set_option maxHeartbeats 8000000
theorem end1V {H : AHeap} {r r0 : AV} {k k' : Blk} (h : View 1 (k :: H) r r0) (hn : ∀ c ∈ k'.cells, NR c) (hk : k = k') : Fin 1 (k :: H) r r0 [k'] := by
  subst hk
  refine ⟨h, by simp, fun b k1 hb h1 => ?_, rfl⟩
  have : b = 0 := by omega
  subst this
  cases h1
  exact hn
theorem view4z {H : AHeap} {lo : Nat} (k : Int) (t : ByteArray) : View lo H (.agg [ivC k, stA t, nlA, nlA]) (vA (.mk k t [] [])) := by
  unfold vA
  rw [Val.cells]
  refine .agg rfl (fun j hj => ?_)
  match j, hj with
  | 0, _ => exact .nr (NR.v _)
  | 1, _ => exact .nr (NR.v _)
  | 2, _ => exact .nil
  | 3, _ => exact .nil
theorem view4l {H : AHeap} {lo : Nat} (k : Int) (t : ByteArray) (vs : List Val) (b ver : Nat) (hlo : lo ≤ b) (hb : H[b]? = some ⟨cellsL vs, ver, true, 26⟩) (n : Nat) (hn : n = vs.length) : View lo H (.agg [ivC k, stA t, nlA, .sl b ver 0 n n 4 false]) (vA (.mk k t [] vs)) := by
  subst hn
  have hl := cellsL_length vs
  unfold vA
  rw [Val.cells]
  refine .agg rfl (fun j hj => ?_)
  match j, hj with
  | 0, _ => exact .nr (NR.v _)
  | 1, _ => exact .nr (NR.v _)
  | 2, _ => exact .nil
  | 3, _ =>
    have := View.sl (x := false) (lo := lo) (off := 0) (len := vs.length) (cap := vs.length) (sz := 4) hlo hb rfl rfl (Nat.le_refl _) (by show 0 + vs.length * 4 ≤ (cellsL vs).length; omega) (cellsL_nr vs)
    simp only [List.drop_zero] at this
    rw [List.take_of_length_le (by omega)] at this
    exact this
abbrev zB : Blk := ⟨[ivC 0, stA ⟨#[]⟩, nlA, nlA], 0, true, 26⟩
/-- Memory while a list is taken. -/
def HL (vs : List Val) (s : St) : AHeap := if vs = [] then [RB s, ⟨[ivC 5, stA ⟨#[]⟩, nlA, nlA], 0, true, 26⟩, zB]
  else [RB s, ⟨[ivC 5, stA ⟨#[]⟩, nlA, .sl 3 (vs.length - 1) 0 vs.length vs.length 4 false], 0, true, 26⟩, zB, ⟨cellsL vs, vs.length - 1, true, 26⟩]
theorem HL_nil (s : St) : HL [] s = [RB s, ⟨[ivC 5, stA ⟨#[]⟩, nlA, nlA], 0, true, 26⟩, zB] := rfl
theorem HL_cons (vs : List Val) (h : vs ≠ []) (s : St) : HL vs s = [RB s, ⟨[ivC 5, stA ⟨#[]⟩, nlA, .sl 3 (vs.length - 1) 0 vs.length vs.length 4 false], 0, true, 26⟩, zB, ⟨cellsL vs, vs.length - 1, true, 26⟩] := if_neg h
theorem list_m (V : St → Val × St) (d : Int) (hd : 1 ≤ d ∧ d ≤ 100) (hz : ∀ s, (V s).2.1.length ≤ s.1.length) (hVf : ∀ s : St, s.2 ≠ 0 → (V s).2.2 ≠ 0)
    (hV : ∀ s : St, s.1.length ≤ 1000000 → (s.2 ≠ 0 → s.1 = []) → MCall Tryd.prog glob 29 [ivC (d + 1)] (RB s) (vA (V s).1) (RB (V s).2)) (s : St) (hs : s.1.length ≤ 1000000) :
    MCall Tryd.prog glob 42 [.agg [ivC 5, stA ⟨#[]⟩, nlA, nlA], stA ⟨#[93]⟩, ivC d] (RB s) (vA (partsR V 5 [93] s).1) (RB (partsR V 5 [93] s).2) := by
  have hargs : ∀ x ∈ [AV.agg [ivC 5, stA ⟨#[]⟩, nlA, nlA], stA ⟨#[93]⟩, ivC d], NR x := by
    refine List.forall_mem_cons.2 ⟨NR.agg ?_, nrs⟩
    exact nrs
  refine MCall.of ctx.nr rfl rfl hargs (NR.vA _) (RB.nr _) (RB.nr _) ?_
  refine lcall42 (by simp) 1 (Nat.le_refl _) ?_
  unfold lc42
  refine I1 tt ⟨?_⟩
  obtain ⟨W, hW⟩ : ∃ W, partsR V 5 [93] s = W := ⟨_, rfl⟩
  rw [hW]
  unfold partsR at hW
  have b1 := blanks_m s
  have z1 := blanks_len s
  obtain ⟨s1, hs1⟩ : ∃ x, blanksP s = x := ⟨_, rfl⟩
  rw [hs1] at b1 z1 hW
  obtain ⟨q, hq⟩ : ∃ q, ([93] : List UInt8).isPrefixOf s1.1 = q := ⟨_, rfl⟩
  rw [hq] at hW
  have t1 : MCall Tryd.prog glob 40 [stA ⟨#[93]⟩] (RB s1) (.v (.bool q)) (RB (if q = true then takeP [93] s1 else s1)) := takeT [93] s1 q hq
  cases q with
  | true =>
    rw [if_pos rfl] at hW t1
    subst hW
    refine G1 F4 tt tt (an b1.go (an t1.go tt)) tt ⟨?_⟩
    refine R1 tt ⟨?_⟩
    exact end1V (view4z _ _) (RB.nr _) rfl
  | false =>
    rw [if_neg (by decide)] at hW t1
    refine G1 F4 tt tt (an b1.go (an t1.go tt)) tt ⟨?_⟩
    refine lavc_loopM ms42_0 (fun m (x : Nat × List Val × St) => m = x.1 ∧ x.2.1.length + x.1 = 67 ∧ x.2.1.length ≤ 65 ∧ x.2.2.1.length ≤ 1000000 ∧ (x.2.2.2 = 0 → x.2.1.length ≤ 64) ∧ partsP V 5 [93] x.1 [] x.2.1 x.2.2 = W) (fun _ => []) (fun x => HL x.2.1 x.2.2) 67 (67, [], s1) ⟨rfl, rfl, by simp, by show s1.1.length ≤ 1000000; omega, fun _ => by simp, hW⟩ ?_ rfl ?_
    · try unfold ms42_0
      exact A0 tt
    rintro m ⟨k, vs, l, f⟩ ⟨rfl, hk, h65, hl, h64, hi⟩
    simp only at hk h65 hl h64 hi ⊢
    obtain ⟨k, rfl⟩ : ∃ k', m = k' + 1 := ⟨m - 1, by omega⟩
    rw [partsP] at hi
    by_cases hf : f ≠ 0
    · rw [if_pos hf] at hi
      subst hi
      have q0 : ((f : Int) == 0) = false := by rw [beq_eq_false_iff_ne, ne_eq]; omega
      try unfold ms42_0
      refine M1 tt ⟨?_⟩
      by_cases hv : vs = []
      · subst hv
        unfold HL
        rw [if_pos rfl]
        refine G1 F4 (an q0 tt) tt tt tt ⟨?_⟩
        refine R1 tt ⟨?_⟩
        exact end1V (view4z _ _) (RB.nr _) rfl
      · rw [HL_cons vs hv]
        refine G1 F4 (an q0 tt) tt tt tt ⟨?_⟩
        refine R1 tt ⟨?_⟩
        exact end1V (view4z _ _) (RB.nr _) rfl
    have hf : f = 0 := Classical.byContradiction hf
    subst hf
    have h64 := h64 rfl
    rw [if_neg (by simp)] at hi
    simp only [show ((5 : Int) = 6) = False from by decide, if_false] at hi
    have ed := i64z (d + 1) (by omega)
    have g11 := give_m 11 (l, 0)
    obtain ⟨s2, hs2⟩ : ∃ x, (if 64 ≤ vs.length then giveP 11 (l, 0) else (l, 0)) = x := ⟨_, rfl⟩
    have z2 : s2.1.length ≤ 1000000 := by
      rw [← hs2]
      split
      · exact Nat.le_trans (give_len _ _) hl
      · exact hl
    rw [hs2] at hi
    have ok2 : s2.2 ≠ 0 → s2.1 = [] := by
      rw [← hs2]
      split
      · exact fun _ => rfl
      · exact fun h => absurd rfl h
    have vm := hV s2 z2 ok2
    have zv := hz s2
    obtain ⟨⟨x, s3⟩, hx⟩ : ∃ y, V s2 = y := ⟨_, rfl⟩
    rw [hx] at vm zv hi
    simp only at vm zv hi
    have b3 := blanks_m s3
    have zb3 := blanks_len s3
    obtain ⟨s4, hs4⟩ : ∃ y, blanksP s3 = y := ⟨_, rfl⟩
    rw [hs4] at b3 zb3 hi
    obtain ⟨q, hq⟩ : ∃ q, ([93] : List UInt8).isPrefixOf s4.1 = q := ⟨_, rfl⟩
    have t4 : MCall Tryd.prog glob 40 [stA ⟨#[93]⟩] (RB s4) (.v (.bool q)) (RB (if q = true then takeP [93] s4 else s4)) := takeT [93] s4 q hq
    obtain ⟨e, he⟩ : ∃ q, ([44] : List UInt8).isPrefixOf s4.1 = q := ⟨_, rfl⟩
    have t5 : MCall Tryd.prog glob 40 [stA ⟨#[44]⟩] (RB s4) (.v (.bool e)) (RB (if e = true then takeP [44] s4 else s4)) := takeT [44] s4 e he
    have g5 := give_m 2 s4
    rw [hq, he] at hi
    have xl := x.cells_length
    have hxs : cellsL (vs ++ [x]) = cellsL vs ++ x.cells := by rw [cellsL_append, cellsL, cellsL, List.append_nil]
    have hvl : (vs ++ [x]).length = vs.length + 1 := by simp
    have hln := cellsL_length vs
    have vf := hVf s2
    rw [hx] at vf
    have f4 : s4.2 = s3.2 := by rw [← hs4]; rfl
    have keep : ∀ s7 : St, (s7 = takeP [44] s4 ∨ s7 = giveP 2 s4) → s7.2 = 0 → (vs ++ [x]).length ≤ 64 := fun s7 h7 h0 => by
      rw [hvl]
      by_cases h : 64 ≤ vs.length
      · exfalso
        rw [if_pos h] at hs2
        have h1 : s2.2 ≠ 0 := by rw [← hs2]; show (11 : Int) ≠ 0; decide
        have h2 := vf h1
        rcases h7 with rfl | rfl
        · exact h2 (f4.symm.trans h0)
        · have h3 : s4.2 ≠ 0 := fun h => h2 (f4.symm.trans h)
          unfold giveP at h0
          rw [if_neg h3] at h0
          exact h3 h0
      · omega
    have k7 : ∀ s7 : St, (s7 = takeP [44] s4 ∨ s7 = giveP 2 s4) → s7.1.length ≤ 1000000 := fun s7 h7 => by
      rcases h7 with rfl | rfl
      · have := take_len [44] s4
        omega
      · have := give_len 2 s4
        omega
    have hne : vs ++ [x] ≠ [] := by simp
    obtain ⟨kx, tx, nx, vx⟩ := x
    rw [show (Val.mk kx tx nx vx).cells = [ivC kx, stA tx, .vsl nx.length (strs nx) none, .vsl vx.length (cellsL vx) none] from by rw [Val.cells]] at hxs
    unfold vA at vm
    rw [Val.cells] at vm
    --%cases
    --%cases
    by_cases hv : vs = []
    · subst hv
      rw [if_neg (by decide)] at hs2
      subst hs2
      try unfold ms42_0
      refine M1 tt ⟨?_⟩
      rw [HL_nil]
      refine G1 F4 tt tt tt tt ⟨?_⟩
      refine lavc_lateq [.ptr 1 0 3, nlA, .ptr 0 0 0, ivC d, ivC (d + 1)] ?_ ?_ <;> simp only [lputs, o1_d, o2_d, o3_d, o4_d, tput, List.set_cons_succ, List.set_cons_zero]
      · (simp only [lfreesAt]; repeat (first | exact trivial | (refine And.intro (by unfold lfreeAt; unfold aopO; simp (disch := first | exact dch | fail) only [go_sem, Nat.reduceAdd, Nat.reduceSub, reduceIte, Nat.reduceEqDiff, Int.reduceToNat, Int.reduceBEq, Int.reduceBNe, ed]; (repeat (with_reducible refine And.intro acl ?_)); first | exact ⟨rfl, fun d h => by cases h; rfl⟩ | exact fun d h => by cases h; rfl | exact Or.inr ⟨rfl, fun d h => by cases h; rfl⟩ | exact Or.inr (fun d h => by cases h; rfl) | exact Or.inl ⟨rfl, fun d h => by cases h; rfl⟩) ?_)))
      · refine G1 F3 tt tt tt tt ⟨?_⟩
        repeat (first
          | ((with_reducible refine lopsF_step ?_ fun K hK => ?_); (case _ => (simp only [lfreesAt]; repeat (first | exact trivial | (refine And.intro (by unfold lfreeAt; unfold aopO; simp (disch := first | exact dch | fail) only [go_sem, Nat.reduceAdd, Nat.reduceSub, reduceIte, Nat.reduceEqDiff, Int.reduceToNat, Int.reduceBEq, Int.reduceBNe, ed, splice, List.take_succ_cons, List.take_zero, List.drop_succ_cons, List.drop_zero, List.drop_nil, List.cons_append, List.nil_append, List.append_nil, List.length_cons, List.length_nil, List.replicate_succ, List.replicate_zero, List.flatten_cons, List.flatten_nil, Nat.reduceMul, Nat.reduceAdd, Nat.reduceLeDiff]; (repeat (with_reducible refine And.intro acl ?_)); first | exact ⟨rfl, fun d h => by cases h; rfl⟩ | exact fun d h => by cases h; rfl | exact Or.inr ⟨rfl, fun d h => by cases h; rfl⟩ | exact Or.inr (fun d h => by cases h; rfl) | exact Or.inl ⟨rfl, fun d h => by cases h; rfl⟩) ?_)))); with_reducible skip; simp (disch := first | exact dch | fail) only [go_sem, Nat.reduceAdd, Nat.reduceSub, reduceIte, Nat.reduceEqDiff, Int.reduceToNat, Int.reduceBEq, Int.reduceBNe, ed, splice, List.take_succ_cons, List.take_zero, List.drop_succ_cons, List.drop_zero, List.drop_nil, List.cons_append, List.nil_append, List.append_nil, List.length_cons, List.length_nil, List.replicate_succ, List.replicate_zero, List.flatten_cons, List.flatten_nil, Nat.reduceMul, Nat.reduceAdd, Nat.reduceLeDiff]; (repeat (with_reducible refine And.intro acl ?_)); (first | (refine hK _ _ ?_) | (refine ⟨_, rfl, hK _ _ ?_⟩) | (refine Or.inr (hK _ _ ?_)) | (refine Or.inr ⟨rfl, hK _ _ ?_⟩) | (refine ⟨_, _, Or.inl (vm.go _ _ rfl), (by first | exact ⟨[], (List.append_nil _).symm⟩ | exact ⟨_, rfl⟩), hK _ _ ?_⟩) | (refine ⟨_, _, Or.inl (vm.go _ _ rfl), hK _ _ ?_⟩) | (refine ⟨_, _, Or.inl (vm.go _ _ rfl).weakQ, hK _ _ ?_⟩)); clear hK K)
          | ((with_reducible refine lopsF_nil ?_ ?_); (case _ => (simp only [lfreesAt]; repeat (first | exact trivial | (refine And.intro (by unfold lfreeAt; unfold aopO; simp (disch := first | exact dch | fail) only [go_sem, Nat.reduceAdd, Nat.reduceSub, reduceIte, Nat.reduceEqDiff, Int.reduceToNat, Int.reduceBEq, Int.reduceBNe, ed, splice, List.take_succ_cons, List.take_zero, List.drop_succ_cons, List.drop_zero, List.drop_nil, List.cons_append, List.nil_append, List.append_nil, List.length_cons, List.length_nil, List.replicate_succ, List.replicate_zero, List.flatten_cons, List.flatten_nil, Nat.reduceMul, Nat.reduceAdd, Nat.reduceLeDiff]; (repeat (with_reducible refine And.intro acl ?_)); first | exact ⟨rfl, fun d h => by cases h; rfl⟩ | exact fun d h => by cases h; rfl | exact Or.inr ⟨rfl, fun d h => by cases h; rfl⟩ | exact Or.inr (fun d h => by cases h; rfl) | exact Or.inl ⟨rfl, fun d h => by cases h; rfl⟩) ?_)))))
          | (with_reducible first | refine lavc_reg ?_ | refine lavc_seq ?_ | refine lavc_block ?_ | refine lavc_skip ?_ | refine lavc_exit ?_ | refine lavc_ret ?_ | refine lavcR_round ?_)
          | (simp only [↓reduceIte, Nat.reduceEqDiff, reduceCtorEq]))
        cases q with
        | true =>
          rw [if_pos rfl] at hi t4
          subst hi
          refine G1 F4 tt tt (an b3.go (an t4.go tt)) tt ⟨?_⟩
          refine R1 tt ⟨?_⟩
          exact end1V (view4l 5 ⟨#[]⟩ ([Val.mk kx tx nx vx]) 3 0 (by decide) (rfl) _ rfl) (RB.nr _) rfl
        | false =>
          rw [if_neg (by decide)] at hi t4
          cases e with
          | true =>
            rw [if_pos rfl] at hi t5
            refine G1 F4 tt tt (an b3.go (an t4.go (an t5.go tt))) tt ⟨?_⟩
            refine ⟨k, (k, [] ++ [Val.mk kx tx nx vx], takeP [44] s4), by omega, ⟨rfl, by show ([] ++ [Val.mk kx tx nx vx]).length + k = 67; omega, by show ([] ++ [Val.mk kx tx nx vx]).length ≤ 65; omega, k7 _ (.inl rfl), keep _ (.inl rfl), hi⟩, ?_, ?_⟩
            · try unfold ms42_0
              exact A0 tt
            · show _ = HL ([] ++ [Val.mk kx tx nx vx]) (takeP [44] s4)
              rw [HL_cons _ hne, hvl]
              rfl
          | false =>
            rw [if_neg (by decide)] at hi t5
            refine G1 F4 tt tt (an b3.go (an t4.go (an t5.go (an g5.go tt)))) tt ⟨?_⟩
            refine ⟨k, (k, [] ++ [Val.mk kx tx nx vx], giveP 2 s4), by omega, ⟨rfl, by show ([] ++ [Val.mk kx tx nx vx]).length + k = 67; omega, by show ([] ++ [Val.mk kx tx nx vx]).length ≤ 65; omega, k7 _ (.inr rfl), keep _ (.inr rfl), hi⟩, ?_, ?_⟩
            · try unfold ms42_0
              exact A0 tt
            · show _ = HL ([] ++ [Val.mk kx tx nx vx]) (giveP 2 s4)
              rw [HL_cons _ hne, hvl]
              rfl
    have htk : List.take (vs.length * 4) (cellsL vs) = cellsL vs := List.take_of_length_le (by omega)
    have hxs' := hxs.symm
    have hn0 : 0 < vs.length := List.length_pos_iff.2 hv
    have en : vs.length - 1 + 1 = vs.length := by omega
    by_cases h6 : 64 ≤ vs.length
    · rw [if_pos h6] at hs2
      subst hs2
      have d64 : decide ((vs.length : Int) ≥ 64) = true := by rw [decide_eq_true_eq]; omega
      try unfold ms42_0
      refine M1 tt ⟨?_⟩
      rw [HL_cons vs hv]
      refine G1 F4 (an d64 tt) tt (an g11.go tt) tt ⟨?_⟩
      refine lavc_lateq [.ptr 1 0 3, .sl 3 (vs.length - 1) 0 vs.length vs.length 4 false, .ptr 0 0 0, ivC d, ivC (d + 1)] ?_ ?_ <;> simp only [lputs, o1_d, o2_d, o3_d, o4_d, tput, List.set_cons_succ, List.set_cons_zero]
      · (simp only [lfreesAt]; repeat (first | exact trivial | (refine And.intro (by unfold lfreeAt; unfold aopO; simp (disch := first | exact dch | fail) only [go_sem, Nat.reduceAdd, Nat.reduceSub, reduceIte, Nat.reduceEqDiff, Int.reduceToNat, Int.reduceBEq, Int.reduceBNe, ed]; (repeat (with_reducible refine And.intro acl ?_)); first | exact ⟨rfl, fun d h => by cases h; rfl⟩ | exact fun d h => by cases h; rfl | exact Or.inr ⟨rfl, fun d h => by cases h; rfl⟩ | exact Or.inr (fun d h => by cases h; rfl) | exact Or.inl ⟨rfl, fun d h => by cases h; rfl⟩) ?_)))
      · refine G1 F3 tt tt tt tt ⟨?_⟩
        repeat (first
          | ((with_reducible refine lopsF_step ?_ fun K hK => ?_); (case _ => (simp only [lfreesAt]; repeat (first | exact trivial | (refine And.intro (by unfold lfreeAt; unfold aopO; simp (disch := first | exact dch | fail) only [go_sem, Nat.reduceAdd, Nat.reduceSub, reduceIte, Nat.reduceEqDiff, Int.reduceToNat, Int.reduceBEq, Int.reduceBNe, ed, splice, List.take_succ_cons, List.take_zero, List.drop_succ_cons, List.drop_zero, List.drop_nil, List.cons_append, List.nil_append, List.append_nil, List.length_cons, List.length_nil, List.replicate_succ, List.replicate_zero, List.flatten_cons, List.flatten_nil, Nat.reduceMul, Nat.reduceAdd, Nat.reduceLeDiff]; (repeat (with_reducible refine And.intro acl ?_)); first | exact ⟨rfl, fun d h => by cases h; rfl⟩ | exact fun d h => by cases h; rfl | exact Or.inr ⟨rfl, fun d h => by cases h; rfl⟩ | exact Or.inr (fun d h => by cases h; rfl) | exact Or.inl ⟨rfl, fun d h => by cases h; rfl⟩) ?_)))); with_reducible skip; simp (disch := first | exact dch | fail) only [go_sem, Nat.reduceAdd, Nat.reduceSub, reduceIte, Nat.reduceEqDiff, Int.reduceToNat, Int.reduceBEq, Int.reduceBNe, ed, splice, List.take_succ_cons, List.take_zero, List.drop_succ_cons, List.drop_zero, List.drop_nil, List.cons_append, List.nil_append, List.append_nil, List.length_cons, List.length_nil, List.replicate_succ, List.replicate_zero, List.flatten_cons, List.flatten_nil, Nat.reduceMul, Nat.reduceAdd, Nat.reduceLeDiff]; (repeat (with_reducible refine And.intro acl ?_)); (first | (refine hK _ _ ?_) | (refine ⟨_, rfl, hK _ _ ?_⟩) | (refine Or.inr (hK _ _ ?_)) | (refine Or.inr ⟨rfl, hK _ _ ?_⟩) | (refine ⟨_, _, Or.inl (vm.go _ _ rfl), (by first | exact ⟨[], (List.append_nil _).symm⟩ | exact ⟨_, rfl⟩), hK _ _ ?_⟩) | (refine ⟨_, _, Or.inl (vm.go _ _ rfl), hK _ _ ?_⟩) | (refine ⟨_, _, Or.inl (vm.go _ _ rfl).weakQ, hK _ _ ?_⟩)); clear hK K)
          | ((with_reducible refine lopsF_nil ?_ ?_); (case _ => (simp only [lfreesAt]; repeat (first | exact trivial | (refine And.intro (by unfold lfreeAt; unfold aopO; simp (disch := first | exact dch | fail) only [go_sem, Nat.reduceAdd, Nat.reduceSub, reduceIte, Nat.reduceEqDiff, Int.reduceToNat, Int.reduceBEq, Int.reduceBNe, ed, splice, List.take_succ_cons, List.take_zero, List.drop_succ_cons, List.drop_zero, List.drop_nil, List.cons_append, List.nil_append, List.append_nil, List.length_cons, List.length_nil, List.replicate_succ, List.replicate_zero, List.flatten_cons, List.flatten_nil, Nat.reduceMul, Nat.reduceAdd, Nat.reduceLeDiff]; (repeat (with_reducible refine And.intro acl ?_)); first | exact ⟨rfl, fun d h => by cases h; rfl⟩ | exact fun d h => by cases h; rfl | exact Or.inr ⟨rfl, fun d h => by cases h; rfl⟩ | exact Or.inr (fun d h => by cases h; rfl) | exact Or.inl ⟨rfl, fun d h => by cases h; rfl⟩) ?_)))))
          | (with_reducible first | refine lavc_reg ?_ | refine lavc_seq ?_ | refine lavc_block ?_ | refine lavc_skip ?_ | refine lavc_exit ?_ | refine lavc_ret ?_ | refine lavcR_round ?_)
          | (simp only [↓reduceIte, Nat.reduceEqDiff, reduceCtorEq]))
        cases q with
        | true =>
          rw [if_pos rfl] at hi t4
          subst hi
          refine G1 F4 (an htk (an hln (an hxs' (an en tt)))) tt (an b3.go (an t4.go tt)) tt ⟨?_⟩
          refine R1 tt ⟨?_⟩
          exact end1V (view4l 5 ⟨#[]⟩ (vs ++ [Val.mk kx tx nx vx]) 3 vs.length (by decide) rfl _ hvl.symm) (RB.nr _) rfl
        | false =>
          rw [if_neg (by decide)] at hi t4
          cases e with
          | true =>
            rw [if_pos rfl] at hi t5
            refine G1 F4 (an htk (an hln (an hxs' (an en tt)))) tt (an b3.go (an t4.go (an t5.go tt))) tt ⟨?_⟩
            refine ⟨k, (k, vs ++ [Val.mk kx tx nx vx], takeP [44] s4), by omega, ⟨rfl, by show (vs ++ [Val.mk kx tx nx vx]).length + k = 67; omega, by show (vs ++ [Val.mk kx tx nx vx]).length ≤ 65; omega, k7 _ (.inl rfl), keep _ (.inl rfl), hi⟩, ?_, ?_⟩
            · try unfold ms42_0
              exact A0 tt
            · show _ = HL (vs ++ [Val.mk kx tx nx vx]) (takeP [44] s4)
              rw [HL_cons _ hne, hvl]
              rfl
          | false =>
            rw [if_neg (by decide)] at hi t5
            refine G1 F4 (an htk (an hln (an hxs' (an en tt)))) tt (an b3.go (an t4.go (an t5.go (an g5.go tt)))) tt ⟨?_⟩
            refine ⟨k, (k, vs ++ [Val.mk kx tx nx vx], giveP 2 s4), by omega, ⟨rfl, by show (vs ++ [Val.mk kx tx nx vx]).length + k = 67; omega, by show (vs ++ [Val.mk kx tx nx vx]).length ≤ 65; omega, k7 _ (.inr rfl), keep _ (.inr rfl), hi⟩, ?_, ?_⟩
            · try unfold ms42_0
              exact A0 tt
            · show _ = HL (vs ++ [Val.mk kx tx nx vx]) (giveP 2 s4)
              rw [HL_cons _ hne, hvl]
              rfl
    · rw [if_neg h6] at hs2
      subst hs2
      have d64 : decide ((vs.length : Int) ≥ 64) = false := by rw [decide_eq_false_iff_not]; omega
      try unfold ms42_0
      refine M1 tt ⟨?_⟩
      rw [HL_cons vs hv]
      refine G1 F4 (an d64 tt) tt tt tt ⟨?_⟩
      refine lavc_lateq [.ptr 1 0 3, .sl 3 (vs.length - 1) 0 vs.length vs.length 4 false, .ptr 0 0 0, ivC d, ivC (d + 1)] ?_ ?_ <;> simp only [lputs, o1_d, o2_d, o3_d, o4_d, tput, List.set_cons_succ, List.set_cons_zero]
      · (simp only [lfreesAt]; repeat (first | exact trivial | (refine And.intro (by unfold lfreeAt; unfold aopO; simp (disch := first | exact dch | fail) only [go_sem, Nat.reduceAdd, Nat.reduceSub, reduceIte, Nat.reduceEqDiff, Int.reduceToNat, Int.reduceBEq, Int.reduceBNe, ed]; (repeat (with_reducible refine And.intro acl ?_)); first | exact ⟨rfl, fun d h => by cases h; rfl⟩ | exact fun d h => by cases h; rfl | exact Or.inr ⟨rfl, fun d h => by cases h; rfl⟩ | exact Or.inr (fun d h => by cases h; rfl) | exact Or.inl ⟨rfl, fun d h => by cases h; rfl⟩) ?_)))
      · refine G1 F3 tt tt tt tt ⟨?_⟩
        repeat (first
          | ((with_reducible refine lopsF_step ?_ fun K hK => ?_); (case _ => (simp only [lfreesAt]; repeat (first | exact trivial | (refine And.intro (by unfold lfreeAt; unfold aopO; simp (disch := first | exact dch | fail) only [go_sem, Nat.reduceAdd, Nat.reduceSub, reduceIte, Nat.reduceEqDiff, Int.reduceToNat, Int.reduceBEq, Int.reduceBNe, ed, splice, List.take_succ_cons, List.take_zero, List.drop_succ_cons, List.drop_zero, List.drop_nil, List.cons_append, List.nil_append, List.append_nil, List.length_cons, List.length_nil, List.replicate_succ, List.replicate_zero, List.flatten_cons, List.flatten_nil, Nat.reduceMul, Nat.reduceAdd, Nat.reduceLeDiff]; (repeat (with_reducible refine And.intro acl ?_)); first | exact ⟨rfl, fun d h => by cases h; rfl⟩ | exact fun d h => by cases h; rfl | exact Or.inr ⟨rfl, fun d h => by cases h; rfl⟩ | exact Or.inr (fun d h => by cases h; rfl) | exact Or.inl ⟨rfl, fun d h => by cases h; rfl⟩) ?_)))); with_reducible skip; simp (disch := first | exact dch | fail) only [go_sem, Nat.reduceAdd, Nat.reduceSub, reduceIte, Nat.reduceEqDiff, Int.reduceToNat, Int.reduceBEq, Int.reduceBNe, ed, splice, List.take_succ_cons, List.take_zero, List.drop_succ_cons, List.drop_zero, List.drop_nil, List.cons_append, List.nil_append, List.append_nil, List.length_cons, List.length_nil, List.replicate_succ, List.replicate_zero, List.flatten_cons, List.flatten_nil, Nat.reduceMul, Nat.reduceAdd, Nat.reduceLeDiff]; (repeat (with_reducible refine And.intro acl ?_)); (first | (refine hK _ _ ?_) | (refine ⟨_, rfl, hK _ _ ?_⟩) | (refine Or.inr (hK _ _ ?_)) | (refine Or.inr ⟨rfl, hK _ _ ?_⟩) | (refine ⟨_, _, Or.inl (vm.go _ _ rfl), (by first | exact ⟨[], (List.append_nil _).symm⟩ | exact ⟨_, rfl⟩), hK _ _ ?_⟩) | (refine ⟨_, _, Or.inl (vm.go _ _ rfl), hK _ _ ?_⟩) | (refine ⟨_, _, Or.inl (vm.go _ _ rfl).weakQ, hK _ _ ?_⟩)); clear hK K)
          | ((with_reducible refine lopsF_nil ?_ ?_); (case _ => (simp only [lfreesAt]; repeat (first | exact trivial | (refine And.intro (by unfold lfreeAt; unfold aopO; simp (disch := first | exact dch | fail) only [go_sem, Nat.reduceAdd, Nat.reduceSub, reduceIte, Nat.reduceEqDiff, Int.reduceToNat, Int.reduceBEq, Int.reduceBNe, ed, splice, List.take_succ_cons, List.take_zero, List.drop_succ_cons, List.drop_zero, List.drop_nil, List.cons_append, List.nil_append, List.append_nil, List.length_cons, List.length_nil, List.replicate_succ, List.replicate_zero, List.flatten_cons, List.flatten_nil, Nat.reduceMul, Nat.reduceAdd, Nat.reduceLeDiff]; (repeat (with_reducible refine And.intro acl ?_)); first | exact ⟨rfl, fun d h => by cases h; rfl⟩ | exact fun d h => by cases h; rfl | exact Or.inr ⟨rfl, fun d h => by cases h; rfl⟩ | exact Or.inr (fun d h => by cases h; rfl) | exact Or.inl ⟨rfl, fun d h => by cases h; rfl⟩) ?_)))))
          | (with_reducible first | refine lavc_reg ?_ | refine lavc_seq ?_ | refine lavc_block ?_ | refine lavc_skip ?_ | refine lavc_exit ?_ | refine lavc_ret ?_ | refine lavcR_round ?_)
          | (simp only [↓reduceIte, Nat.reduceEqDiff, reduceCtorEq]))
        cases q with
        | true =>
          rw [if_pos rfl] at hi t4
          subst hi
          refine G1 F4 (an htk (an hln (an hxs' (an en tt)))) tt (an b3.go (an t4.go tt)) tt ⟨?_⟩
          refine R1 tt ⟨?_⟩
          exact end1V (view4l 5 ⟨#[]⟩ (vs ++ [Val.mk kx tx nx vx]) 3 vs.length (by decide) rfl _ hvl.symm) (RB.nr _) rfl
        | false =>
          rw [if_neg (by decide)] at hi t4
          cases e with
          | true =>
            rw [if_pos rfl] at hi t5
            refine G1 F4 (an htk (an hln (an hxs' (an en tt)))) tt (an b3.go (an t4.go (an t5.go tt))) tt ⟨?_⟩
            refine ⟨k, (k, vs ++ [Val.mk kx tx nx vx], takeP [44] s4), by omega, ⟨rfl, by show (vs ++ [Val.mk kx tx nx vx]).length + k = 67; omega, by show (vs ++ [Val.mk kx tx nx vx]).length ≤ 65; omega, k7 _ (.inl rfl), keep _ (.inl rfl), hi⟩, ?_, ?_⟩
            · try unfold ms42_0
              exact A0 tt
            · show _ = HL (vs ++ [Val.mk kx tx nx vx]) (takeP [44] s4)
              rw [HL_cons _ hne, hvl]
              rfl
          | false =>
            rw [if_neg (by decide)] at hi t5
            refine G1 F4 (an htk (an hln (an hxs' (an en tt)))) tt (an b3.go (an t4.go (an t5.go (an g5.go tt)))) tt ⟨?_⟩
            refine ⟨k, (k, vs ++ [Val.mk kx tx nx vx], giveP 2 s4), by omega, ⟨rfl, by show (vs ++ [Val.mk kx tx nx vx]).length + k = 67; omega, by show (vs ++ [Val.mk kx tx nx vx]).length ≤ 65; omega, k7 _ (.inr rfl), keep _ (.inr rfl), hi⟩, ?_, ?_⟩
            · try unfold ms42_0
              exact A0 tt
            · show _ = HL (vs ++ [Val.mk kx tx nx vx]) (giveP 2 s4)
              rw [HL_cons _ hne, hvl]
              rfl
end Go.Abs.S
namespace Go.Abs.S
attribute [local go_sem] lguard aopO aop aenv toAV tput aLoad aStore vcells aBin aNilI aUn aAlloc aBox aBuild aBSlice afill aConv isIntT aappZ aCap aArr aMM aMake aSlice bnd3 bnd aFldAddr aFld aIdxAddr aIdx aExt aLen aCopy aEq0 bAV aUb aapp aappQ agh acont List.getD_cons_zero List.getD_cons_succ List.set_cons_zero List.set_cons_succ List.getElem?_cons_zero List.getElem?_cons_succ List.length_cons List.length_nil List.map_cons List.map_nil ints_length if_true if_false Bool.false_eq_true true_and and_true eq_self ne_eq not_false_eq_true not_true_eq_false beq_self_eq_true Nat.zero_add Nat.add_zero Nat.mul_one Nat.zero_mul Int.toNat_natCast List.toList_toArray List.all_cons List.all_nil AV.one Value.oneCell' Bool.and_true Bool.true_and forall_const true_implies false_implies implies_true Option.map_some Option.map_none Option.isSome_some Option.isSome_none imp_self rdP_flat rdP_row splice_one ints_set ints_get List.append_nil List.cons_append List.nil_append List.getElem?_toArray List.drop_zero ints_drop ints_take List.take_of_length_le splice_all ints_one Option.some.injEq Option.getD_some List.length_replicate zArr List.map_replicate rep_ints splice_intsR List.length_set List.length_append List.flatten_replicate_singleton rep_slice rep_string rep_bool rep_iface List.replicate_zero if_pos if_neg List.mapM_cons List.mapM_nil Option.pure_def Option.bind_eq_bind Option.bind_some Bool.true_eq_false Bool.not_false Bool.not_true get_concat set_concat
open Go.Proofs
set_option linter.unusedVariables false
set_option linter.unusedSimpArgs false
set_option maxRecDepth 100000
set_option maxHeartbeats 8000000
theorem RB.fl (s : St) : ∀ c ∈ (RB s).cells, Flat c := by
  intro c hc
  simp only [List.mem_cons, List.not_mem_nil, or_false] at hc
  rcases hc with rfl | rfl <;> exact Flat.v _
theorem give_fail (e : Int) (s : St) (h : s.2 ≠ 0) : (giveP e s).2 ≠ 0 := by
  unfold giveP
  rw [if_neg h]
  exact h
theorem text_fail (s : St) (h : s.2 ≠ 0) : (textR s).2 = s := by
  unfold textR
  rw [textP, if_pos h]
theorem name_len (l : List ByteArray) (s : St) : (nameP l s).2.1.length ≤ s.1.length := by
  unfold nameP
  simp only
  have h1 := blanks_len s
  have h2 : ∀ s : St, (if [34].isPrefixOf s.1 = true then takeP [34] s else giveP 2 s).1.length ≤ s.1.length := fun s => by
    split
    · exact take_len _ _
    · exact give_len _ _
  have h3 : ∀ s : St, (if [58].isPrefixOf s.1 = true then takeP [58] s else giveP 2 s).1.length ≤ s.1.length := fun s => by
    split
    · exact take_len _ _
    · exact give_len _ _
  have h4 : ∀ (s : St) (p : Prop) [Decidable p], (if p then giveP 10 s else s).1.length ≤ s.1.length := fun s p _ => by
    split
    · exact give_len _ _
    · exact Nat.le_refl _
  refine Nat.le_trans (h3 _) (Nat.le_trans (blanks_len _) (Nat.le_trans (h4 _ _) (Nat.le_trans (text_len _ _ _) (Nat.le_trans (h2 _) h1))))
theorem name_fail (l : List ByteArray) (s : St) (h : s.2 ≠ 0) : (nameP l s).2.2 ≠ 0 := by
  unfold nameP
  simp only
  have h1 : ∀ (e : Int) (p : List UInt8) (s : St), s.2 ≠ 0 → (if p.isPrefixOf s.1 = true then takeP p s else giveP e s).2 ≠ 0 := fun e p s h => by
    split
    · exact h
    · exact give_fail _ _ h
  have h4 : ∀ (s : St) (p : Prop) [Decidable p], s.2 ≠ 0 → (if p then giveP 10 s else s).2 ≠ 0 := fun s p _ h => by
    split
    · exact give_fail _ _ h
    · exact h
  refine h1 _ _ _ (h4 _ _ ?_)
  rw [text_fail _ (h1 2 [34] (blanksP s) h)]
  exact h1 2 [34] (blanksP s) h
/-- Where something is wrong, nothing is left. -/
def Ok (s : St) : Prop := s.2 ≠ 0 → s.1 = []
theorem give_ok (e : Int) (s : St) (h : Ok s) : Ok (giveP e s) := by
  unfold giveP
  split
  · exact fun _ => rfl
  · exact h
theorem blanks_ok (s : St) (h : Ok s) : Ok (blanksP s) := fun hf => by
  have := h hf
  unfold blanksP
  rw [this]
  rfl
theorem take_ok (p : List UInt8) (s : St) (h : Ok s) : Ok (takeP p s) := fun hf => by
  have := h hf
  unfold takeP
  rw [this]
  split
  · simp
  · rfl
theorem esc_ok (s : St) (h : Ok s) : Ok (escP s).2 := by
  obtain ⟨l, f⟩ := s
  cases l with
  | nil => exact give_ok 2 ([], f) h
  | cons c r =>
    have hf : f = 0 := Classical.byContradiction fun hf => by
      have : c :: r = [] := h hf
      cases this
    subst hf
    simp only [escP]
    split
    · exact fun h => absurd rfl h
    split
    · exact fun _ => rfl
    split
    · exact fun _ => rfl
    · exact fun h => absurd rfl h
theorem text_ok : ∀ (n : Nat) (acc : List UInt8) (s : St), Ok s → Ok (textP n acc s).2
  | 0, acc, s, h => h
  | n + 1, acc, s, h => by
    rw [textP]
    split
    · exact h
    · rename_i hf
      have hf : s.2 = 0 := Classical.byContradiction hf
      split
      · exact give_ok _ _ h
      · have hz : ∀ l : List UInt8, Ok (l, s.2) := fun l hl => absurd hf hl
        simp only
        split
        · exact text_ok n _ _ (hz _)
        split
        · exact hz _
        split
        · exact text_ok n _ _ (esc_ok _ (hz _))
        · exact text_ok n _ _ (give_ok _ _ (hz _))
theorem name_ok (l : List ByteArray) (s : St) (h : Ok s) : Ok (nameP l s).2 := by
  unfold nameP
  simp only
  have h1 : ∀ (e : Int) (p : List UInt8) (s : St), Ok s → Ok (if p.isPrefixOf s.1 = true then takeP p s else giveP e s) := fun e p s h => by
    split
    · exact take_ok _ _ h
    · exact give_ok _ _ h
  have h4 : ∀ (s : St) (p : Prop) [Decidable p], Ok s → Ok (if p then giveP 10 s else s) := fun s p _ h => by
    split
    · exact give_ok _ _ h
    · exact h
  exact h1 _ _ _ (blanks_ok _ (h4 _ _ (text_ok _ _ _ (h1 _ _ _ (blanks_ok _ h)))))
theorem MCall.les {P : Program} {G : Glob} {n : FuncId} {args args' : List AV} {k k' : Blk} {r : AV} (h : MCall P G n args' k r k') (hl : AvLs args args') : MCall P G n args k r k' := fun H b hb =>
  ⟨(h H b hb).1, fun σ w us h1 h2 rel => (h H b hb).2 σ w us (by rw [h1]; simp [hl.length]) (fun j hj => by
    cases j with
    | zero => exact h2 0 (by simp)
    | succ j =>
      have hj' : j < args.length := by rw [hl.length]; simpa using hj
      have := hl.get j hj' _ _ _ (h2 (j + 1) (by simpa using hj'))
      simpa using this) rel⟩
theorem view6 {H : AHeap} {lo : Nat} (t : ByteArray) (ns : List ByteArray) (vs : List Val) (b v1 c v2 : Nat) (hlo : lo ≤ b) (hlc : lo ≤ c) (hb : H[b]? = some ⟨strs ns, v1, true, 9⟩) (hc : H[c]? = some ⟨cellsL vs, v2, true, 26⟩) (n : Nat) (hn : n = vs.length) (hn2 : n = ns.length) :
    View lo H (.agg [ivC 6, stA t, .sl b v1 0 n n 1 false, .sl c v2 0 n n 4 false]) (vA (.mk 6 t ns vs)) := by
  have hl := cellsL_length vs
  have hs := strs_length ns
  unfold vA
  rw [Val.cells, ← hn, ← hn2]
  refine .agg rfl (fun j hj => ?_)
  match j, hj with
  | 0, _ => exact .nr (NR.v _)
  | 1, _ => exact .nr (NR.v _)
  | 2, _ =>
    have := View.sl (x := false) (lo := lo) (off := 0) (len := n) (cap := n) (sz := 1) hlo hb rfl rfl (Nat.le_refl _) (by show 0 + n * 1 ≤ (strs ns).length; omega) (NR.strs ns)
    simp only [List.drop_zero] at this
    rw [List.take_of_length_le (by omega)] at this
    exact this
  | 3, _ =>
    have := View.sl (x := false) (lo := lo) (off := 0) (len := n) (cap := n) (sz := 4) hlc hc rfl rfl (Nat.le_refl _) (by show 0 + n * 4 ≤ (cellsL vs).length; omega) (cellsL_nr vs)
    simp only [List.drop_zero] at this
    rw [List.take_of_length_le (by omega)] at this
    exact this
/-- Memory while a page is taken. -/
def HQ (ns : List ByteArray) (vs : List Val) (s : St) : AHeap := if vs = [] then [RB s, ⟨[ivC 6, stA ⟨#[]⟩, nlA, nlA], 0, true, 26⟩, zB]
  else [RB s, ⟨[ivC 6, stA ⟨#[]⟩, .sl 3 (vs.length - 1) 0 vs.length vs.length 1 false, .sl 4 (vs.length - 1) 0 vs.length vs.length 4 false], 0, true, 26⟩, zB, ⟨strs ns, vs.length - 1, true, 9⟩, ⟨cellsL vs, vs.length - 1, true, 26⟩]
theorem HQ_nil (s : St) : HQ [] [] s = [RB s, ⟨[ivC 6, stA ⟨#[]⟩, nlA, nlA], 0, true, 26⟩, zB] := rfl
theorem HQ_cons (ns : List ByteArray) (vs : List Val) (h : vs ≠ []) (s : St) : HQ ns vs s = [RB s, ⟨[ivC 6, stA ⟨#[]⟩, .sl 3 (vs.length - 1) 0 vs.length vs.length 1 false, .sl 4 (vs.length - 1) 0 vs.length vs.length 4 false], 0, true, 26⟩, zB, ⟨strs ns, vs.length - 1, true, 9⟩, ⟨cellsL vs, vs.length - 1, true, 26⟩] := if_neg h
theorem page_m (V : St → Val × St) (d : Int) (hd : 1 ≤ d ∧ d ≤ 100) (hz : ∀ s, (V s).2.1.length ≤ s.1.length) (hVf : ∀ s : St, s.2 ≠ 0 → (V s).2.2 ≠ 0)
    (hV : ∀ s : St, s.1.length ≤ 1000000 → (s.2 ≠ 0 → s.1 = []) → MCall Tryd.prog glob 29 [ivC (d + 1)] (RB s) (vA (V s).1) (RB (V s).2)) (s : St) (hs : s.1.length ≤ 1000000) :
    MCall Tryd.prog glob 42 [.agg [ivC 6, stA ⟨#[]⟩, nlA, nlA], stA ⟨#[125]⟩, ivC d] (RB s) (vA (partsR V 6 [125] s).1) (RB (partsR V 6 [125] s).2) := by
  have hargs : ∀ x ∈ [AV.agg [ivC 6, stA ⟨#[]⟩, nlA, nlA], stA ⟨#[125]⟩, ivC d], NR x := by
    refine List.forall_mem_cons.2 ⟨NR.agg ?_, nrs⟩
    exact nrs
  refine MCall.of ctx.nr rfl rfl hargs (NR.vA _) (RB.nr _) (RB.nr _) ?_
  refine lcall42 (by simp) 1 (Nat.le_refl _) ?_
  unfold lc42
  refine I1 tt ⟨?_⟩
  obtain ⟨W, hW⟩ : ∃ W, partsR V 6 [125] s = W := ⟨_, rfl⟩
  rw [hW]
  unfold partsR at hW
  have b1 := blanks_m s
  have z1 := blanks_len s
  obtain ⟨s1, hs1⟩ : ∃ x, blanksP s = x := ⟨_, rfl⟩
  rw [hs1] at b1 z1 hW
  obtain ⟨q, hq⟩ : ∃ q, ([125] : List UInt8).isPrefixOf s1.1 = q := ⟨_, rfl⟩
  rw [hq] at hW
  have t1 : MCall Tryd.prog glob 40 [stA ⟨#[125]⟩] (RB s1) (.v (.bool q)) (RB (if q = true then takeP [125] s1 else s1)) := takeT [125] s1 q hq
  cases q with
  | true =>
    rw [if_pos rfl] at hW t1
    subst hW
    refine G1 F4 tt tt (an b1.go (an t1.go tt)) tt ⟨?_⟩
    refine R1 tt ⟨?_⟩
    exact end1V (view4z _ _) (RB.nr _) rfl
  | false =>
    rw [if_neg (by decide)] at hW t1
    refine G1 F4 tt tt (an b1.go (an t1.go tt)) tt ⟨?_⟩
    refine lavc_loopM ms42_0 (fun m (x : Nat × List ByteArray × List Val × St) => m = x.1 ∧ x.2.2.1.length + x.1 = 67 ∧ x.2.1.length = x.2.2.1.length ∧ x.2.2.1.length ≤ 65 ∧ x.2.2.2.1.length ≤ 1000000 ∧ (x.2.2.2.2 = 0 → x.2.2.1.length ≤ 64) ∧ partsP V 6 [125] x.1 x.2.1 x.2.2.1 x.2.2.2 = W) (fun _ => []) (fun x => HQ x.2.1 x.2.2.1 x.2.2.2) 67 (67, [], [], s1) ⟨rfl, rfl, rfl, by simp, by show s1.1.length ≤ 1000000; omega, fun _ => by simp, hW⟩ ?_ rfl ?_
    · try unfold ms42_0
      exact A0 tt
    rintro m ⟨k, ns, vs, l, f⟩ ⟨rfl, hk, hnn, h65, hl, h64, hi⟩
    simp only at hk hnn h65 hl h64 hi ⊢
    obtain ⟨k, rfl⟩ : ∃ k', m = k' + 1 := ⟨m - 1, by omega⟩
    rw [partsP] at hi
    by_cases hf : f ≠ 0
    · rw [if_pos hf] at hi
      subst hi
      have q0 : ((f : Int) == 0) = false := by rw [beq_eq_false_iff_ne, ne_eq]; omega
      try unfold ms42_0
      refine M1 tt ⟨?_⟩
      by_cases hv : vs = []
      · subst hv
        obtain rfl : ns = [] := List.eq_nil_of_length_eq_zero hnn
        rw [HQ_nil]
        refine G1 F4 (an q0 tt) tt tt tt ⟨?_⟩
        refine R1 tt ⟨?_⟩
        exact end1V (view4z _ _) (RB.nr _) rfl
      · rw [HQ_cons ns vs hv]
        refine G1 F4 (an q0 tt) tt tt tt ⟨?_⟩
        refine R1 tt ⟨?_⟩
        exact end1V (view4z _ _) (RB.nr _) rfl
    have hf : f = 0 := Classical.byContradiction hf
    subst hf
    have h64 := h64 rfl
    rw [if_neg (by simp)] at hi
    simp only [eq_self, if_true] at hi
    have ed := i64z (d + 1) (by omega)
    have g11 := give_m 11 (l, 0)
    obtain ⟨s2, hs2⟩ : ∃ x, (if 64 ≤ vs.length then giveP 11 (l, 0) else (l, 0)) = x := ⟨_, rfl⟩
    have z2 : s2.1.length ≤ 1000000 := by
      rw [← hs2]
      split
      · exact Nat.le_trans (give_len _ _) hl
      · exact hl
    rw [hs2] at hi
    obtain ⟨⟨nm, s2'⟩, hnm⟩ : ∃ y, nameP ns s2 = y := ⟨_, rfl⟩
    have nz := name_len ns s2
    have nf := name_fail ns s2
    have ok2 : s2.2 ≠ 0 → s2.1 = [] := by
      rw [← hs2]
      split
      · exact fun _ => rfl
      · exact fun h => absurd rfl h
    have nok := name_ok ns s2 ok2
    rw [hnm] at hi nz nf nok
    simp only at hi nz nf nok
    have nmm := fun c => name_m ns c (by omega) s2 z2
    rw [hnm] at nmm
    simp only at nmm
    have vm := hV s2' (by omega) nok
    have zv := hz s2'
    obtain ⟨⟨x, s3⟩, hx⟩ : ∃ y, V s2' = y := ⟨_, rfl⟩
    rw [hx] at vm zv hi
    simp only at vm zv hi
    have b3 := blanks_m s3
    have zb3 := blanks_len s3
    obtain ⟨s4, hs4⟩ : ∃ y, blanksP s3 = y := ⟨_, rfl⟩
    rw [hs4] at b3 zb3 hi
    obtain ⟨q, hq⟩ : ∃ q, ([125] : List UInt8).isPrefixOf s4.1 = q := ⟨_, rfl⟩
    have t4 : MCall Tryd.prog glob 40 [stA ⟨#[125]⟩] (RB s4) (.v (.bool q)) (RB (if q = true then takeP [125] s4 else s4)) := takeT [125] s4 q hq
    obtain ⟨e, he⟩ : ∃ q, ([44] : List UInt8).isPrefixOf s4.1 = q := ⟨_, rfl⟩
    have t5 : MCall Tryd.prog glob 40 [stA ⟨#[44]⟩] (RB s4) (.v (.bool e)) (RB (if e = true then takeP [44] s4 else s4)) := takeT [44] s4 e he
    have g5 := give_m 2 s4
    rw [hq, he] at hi
    have xl := x.cells_length
    have hxs : cellsL (vs ++ [x]) = cellsL vs ++ x.cells := by rw [cellsL_append, cellsL, cellsL, List.append_nil]
    have hvl : (vs ++ [x]).length = vs.length + 1 := by simp
    have hln := cellsL_length vs
    have vf := hVf s2'
    rw [hx] at vf
    have f4 : s4.2 = s3.2 := by rw [← hs4]; rfl
    have keep : ∀ s7 : St, (s7 = takeP [44] s4 ∨ s7 = giveP 2 s4) → s7.2 = 0 → (vs ++ [x]).length ≤ 64 := fun s7 h7 h0 => by
      rw [hvl]
      by_cases h : 64 ≤ vs.length
      · exfalso
        rw [if_pos h] at hs2
        have h1 : s2.2 ≠ 0 := by rw [← hs2]; show (11 : Int) ≠ 0; decide
        have h2 := vf (nf h1)
        rcases h7 with rfl | rfl
        · exact h2 (f4.symm.trans h0)
        · have h3 : s4.2 ≠ 0 := fun h => h2 (f4.symm.trans h)
          unfold giveP at h0
          rw [if_neg h3] at h0
          exact h3 h0
      · omega
    have k7 : ∀ s7 : St, (s7 = takeP [44] s4 ∨ s7 = giveP 2 s4) → s7.1.length ≤ 1000000 := fun s7 h7 => by
      rcases h7 with rfl | rfl
      · have := take_len [44] s4
        omega
      · have := give_len 2 s4
        omega
    have hne : vs ++ [x] ≠ [] := by simp
    obtain ⟨kx, tx, nx, vx⟩ := x
    rw [show (Val.mk kx tx nx vx).cells = [ivC kx, stA tx, .vsl nx.length (strs nx) none, .vsl vx.length (cellsL vx) none] from by rw [Val.cells]] at hxs
    unfold vA at vm
    rw [Val.cells] at vm
    --%cases
    --%cases
    have hnl : (ns ++ [nm]).length = ns.length + 1 := by simp
    by_cases hv : vs = []
    · subst hv
      obtain rfl : ns = [] := List.eq_nil_of_length_eq_zero hnn
      rw [if_neg (by decide)] at hs2
      subst hs2
      have nn : MCall Tryd.prog glob 55 [nlA] (RB (l, 0)) (.v (.string nm)) (RB s2') := MCall.les (nmm none) ⟨AvLe.nil, trivial⟩
      try unfold ms42_0
      refine M1 tt ⟨?_⟩
      rw [HQ_nil]
      refine G1 F4 tt tt tt tt ⟨?_⟩
      refine lavc_lateq [.ptr 1 0 2, nlA, .ptr 0 0 0, .ptr 1 0 2, nlA] ?_ ?_ <;> simp only [lputs, o1_d, o2_d, o3_d, o4_d, tput, List.set_cons_succ, List.set_cons_zero]
      · (simp only [lfreesAt]; repeat (first | exact trivial | (refine And.intro (by unfold lfreeAt; unfold aopO; simp (disch := first | exact dch | fail) only [go_sem, Nat.reduceAdd, Nat.reduceSub, reduceIte, Nat.reduceEqDiff, Int.reduceToNat, Int.reduceBEq, Int.reduceBNe]; (repeat (with_reducible refine And.intro acl ?_)); first | exact ⟨rfl, fun d h => by cases h; rfl⟩ | exact fun d h => by cases h; rfl | exact Or.inr ⟨rfl, fun d h => by cases h; rfl⟩ | exact Or.inr (fun d h => by cases h; rfl) | exact Or.inl ⟨rfl, fun d h => by cases h; rfl⟩) ?_)))
      · refine G1 F3 tt tt tt tt ⟨?_⟩
        repeat (first
          | ((with_reducible refine lopsF_step ?_ fun K hK => ?_); (case _ => (simp only [lfreesAt]; repeat (first | exact trivial | (refine And.intro (by unfold lfreeAt; unfold aopO; simp (disch := first | exact dch | fail) only [go_sem, Nat.reduceAdd, Nat.reduceSub, reduceIte, Nat.reduceEqDiff, Int.reduceToNat, Int.reduceBEq, Int.reduceBNe, splice, List.take_succ_cons, List.take_zero, List.drop_succ_cons, List.drop_zero, List.drop_nil, List.cons_append, List.nil_append, List.append_nil, List.length_cons, List.length_nil, List.replicate_succ, List.replicate_zero, List.flatten_cons, List.flatten_nil, Nat.reduceMul, Nat.reduceAdd, Nat.reduceLeDiff]; (repeat (with_reducible refine And.intro acl ?_)); first | exact ⟨rfl, fun d h => by cases h; rfl⟩ | exact fun d h => by cases h; rfl | exact Or.inr ⟨rfl, fun d h => by cases h; rfl⟩ | exact Or.inr (fun d h => by cases h; rfl) | exact Or.inl ⟨rfl, fun d h => by cases h; rfl⟩) ?_)))); with_reducible skip; simp (disch := first | exact dch | fail) only [go_sem, Nat.reduceAdd, Nat.reduceSub, reduceIte, Nat.reduceEqDiff, Int.reduceToNat, Int.reduceBEq, Int.reduceBNe, splice, List.take_succ_cons, List.take_zero, List.drop_succ_cons, List.drop_zero, List.drop_nil, List.cons_append, List.nil_append, List.append_nil, List.length_cons, List.length_nil, List.replicate_succ, List.replicate_zero, List.flatten_cons, List.flatten_nil, Nat.reduceMul, Nat.reduceAdd, Nat.reduceLeDiff]; (repeat (with_reducible refine And.intro acl ?_)); (first | (refine hK _ _ ?_) | (refine ⟨_, rfl, hK _ _ ?_⟩) | (refine Or.inr (hK _ _ ?_)) | (refine Or.inr ⟨rfl, hK _ _ ?_⟩) | (refine ⟨_, _, Or.inl (nn.go _ _ rfl), (by first | exact ⟨[], (List.append_nil _).symm⟩ | exact ⟨_, rfl⟩), hK _ _ ?_⟩) | (refine ⟨_, _, Or.inl (nn.go _ _ rfl), hK _ _ ?_⟩) | (refine ⟨_, _, Or.inl (nn.go _ _ rfl).weakQ, hK _ _ ?_⟩)); clear hK K)
          | ((with_reducible refine lopsF_nil ?_ ?_); (case _ => (simp only [lfreesAt]; repeat (first | exact trivial | (refine And.intro (by unfold lfreeAt; unfold aopO; simp (disch := first | exact dch | fail) only [go_sem, Nat.reduceAdd, Nat.reduceSub, reduceIte, Nat.reduceEqDiff, Int.reduceToNat, Int.reduceBEq, Int.reduceBNe, splice, List.take_succ_cons, List.take_zero, List.drop_succ_cons, List.drop_zero, List.drop_nil, List.cons_append, List.nil_append, List.append_nil, List.length_cons, List.length_nil, List.replicate_succ, List.replicate_zero, List.flatten_cons, List.flatten_nil, Nat.reduceMul, Nat.reduceAdd, Nat.reduceLeDiff]; (repeat (with_reducible refine And.intro acl ?_)); first | exact ⟨rfl, fun d h => by cases h; rfl⟩ | exact fun d h => by cases h; rfl | exact Or.inr ⟨rfl, fun d h => by cases h; rfl⟩ | exact Or.inr (fun d h => by cases h; rfl) | exact Or.inl ⟨rfl, fun d h => by cases h; rfl⟩) ?_)))))
          | (with_reducible first | refine lavc_reg ?_ | refine lavc_seq ?_ | refine lavc_block ?_ | refine lavc_skip ?_ | refine lavc_exit ?_ | refine lavc_ret ?_ | refine lavcR_round ?_)
          | (simp only [↓reduceIte, Nat.reduceEqDiff, reduceCtorEq]))
        refine G1 F4 tt tt tt tt ⟨?_⟩
        refine lavc_lateq [.ptr 1 0 3, nlA, .ptr 0 0 0, ivC d, ivC (d + 1)] ?_ ?_ <;> simp only [lputs, o1_d, o2_d, o3_d, o4_d, tput, List.set_cons_succ, List.set_cons_zero]
        · (simp only [lfreesAt]; repeat (first | exact trivial | (refine And.intro (by unfold lfreeAt; unfold aopO; simp (disch := first | exact dch | fail) only [go_sem, Nat.reduceAdd, Nat.reduceSub, reduceIte, Nat.reduceEqDiff, Int.reduceToNat, Int.reduceBEq, Int.reduceBNe, ed]; (repeat (with_reducible refine And.intro acl ?_)); first | exact ⟨rfl, fun d h => by cases h; rfl⟩ | exact fun d h => by cases h; rfl | exact Or.inr ⟨rfl, fun d h => by cases h; rfl⟩ | exact Or.inr (fun d h => by cases h; rfl) | exact Or.inl ⟨rfl, fun d h => by cases h; rfl⟩) ?_)))
        · refine G1 F3 tt tt tt tt ⟨?_⟩
          repeat (first
            | ((with_reducible refine lopsF_step ?_ fun K hK => ?_); (case _ => (simp only [lfreesAt]; repeat (first | exact trivial | (refine And.intro (by unfold lfreeAt; unfold aopO; simp (disch := first | exact dch | fail) only [go_sem, Nat.reduceAdd, Nat.reduceSub, reduceIte, Nat.reduceEqDiff, Int.reduceToNat, Int.reduceBEq, Int.reduceBNe, ed, splice, List.take_succ_cons, List.take_zero, List.drop_succ_cons, List.drop_zero, List.drop_nil, List.cons_append, List.nil_append, List.append_nil, List.length_cons, List.length_nil, List.replicate_succ, List.replicate_zero, List.flatten_cons, List.flatten_nil, Nat.reduceMul, Nat.reduceAdd, Nat.reduceLeDiff]; (repeat (with_reducible refine And.intro acl ?_)); first | exact ⟨rfl, fun d h => by cases h; rfl⟩ | exact fun d h => by cases h; rfl | exact Or.inr ⟨rfl, fun d h => by cases h; rfl⟩ | exact Or.inr (fun d h => by cases h; rfl) | exact Or.inl ⟨rfl, fun d h => by cases h; rfl⟩) ?_)))); with_reducible skip; simp (disch := first | exact dch | fail) only [go_sem, Nat.reduceAdd, Nat.reduceSub, reduceIte, Nat.reduceEqDiff, Int.reduceToNat, Int.reduceBEq, Int.reduceBNe, ed, splice, List.take_succ_cons, List.take_zero, List.drop_succ_cons, List.drop_zero, List.drop_nil, List.cons_append, List.nil_append, List.append_nil, List.length_cons, List.length_nil, List.replicate_succ, List.replicate_zero, List.flatten_cons, List.flatten_nil, Nat.reduceMul, Nat.reduceAdd, Nat.reduceLeDiff]; (repeat (with_reducible refine And.intro acl ?_)); (first | (refine hK _ _ ?_) | (refine ⟨_, rfl, hK _ _ ?_⟩) | (refine Or.inr (hK _ _ ?_)) | (refine Or.inr ⟨rfl, hK _ _ ?_⟩) | (refine ⟨_, _, Or.inl (vm.go _ _ rfl), (by first | exact ⟨[], (List.append_nil _).symm⟩ | exact ⟨_, rfl⟩), hK _ _ ?_⟩) | (refine ⟨_, _, Or.inl (vm.go _ _ rfl), hK _ _ ?_⟩) | (refine ⟨_, _, Or.inl (vm.go _ _ rfl).weakQ, hK _ _ ?_⟩)); clear hK K)
            | ((with_reducible refine lopsF_nil ?_ ?_); (case _ => (simp only [lfreesAt]; repeat (first | exact trivial | (refine And.intro (by unfold lfreeAt; unfold aopO; simp (disch := first | exact dch | fail) only [go_sem, Nat.reduceAdd, Nat.reduceSub, reduceIte, Nat.reduceEqDiff, Int.reduceToNat, Int.reduceBEq, Int.reduceBNe, ed, splice, List.take_succ_cons, List.take_zero, List.drop_succ_cons, List.drop_zero, List.drop_nil, List.cons_append, List.nil_append, List.append_nil, List.length_cons, List.length_nil, List.replicate_succ, List.replicate_zero, List.flatten_cons, List.flatten_nil, Nat.reduceMul, Nat.reduceAdd, Nat.reduceLeDiff]; (repeat (with_reducible refine And.intro acl ?_)); first | exact ⟨rfl, fun d h => by cases h; rfl⟩ | exact fun d h => by cases h; rfl | exact Or.inr ⟨rfl, fun d h => by cases h; rfl⟩ | exact Or.inr (fun d h => by cases h; rfl) | exact Or.inl ⟨rfl, fun d h => by cases h; rfl⟩) ?_)))))
            | (with_reducible first | refine lavc_reg ?_ | refine lavc_seq ?_ | refine lavc_block ?_ | refine lavc_skip ?_ | refine lavc_exit ?_ | refine lavc_ret ?_ | refine lavcR_round ?_)
            | (simp only [↓reduceIte, Nat.reduceEqDiff, reduceCtorEq]))
          cases q with
          | true =>
            rw [if_pos rfl] at hi t4
            subst hi
            refine G1 F4 tt tt (an b3.go (an t4.go tt)) tt ⟨?_⟩
            refine R1 tt ⟨?_⟩
            exact end1V (view6 ⟨#[]⟩ [nm] [Val.mk kx tx nx vx] 3 0 4 0 (by decide) (by decide) rfl rfl _ rfl rfl) (RB.nr _) rfl
          | false =>
            rw [if_neg (by decide)] at hi t4
            cases e with
            | true =>
              rw [if_pos rfl] at hi t5
              refine G1 F4 tt tt (an b3.go (an t4.go (an t5.go tt))) tt ⟨?_⟩
              refine ⟨k, (k, [] ++ [nm], [] ++ [.mk kx tx nx vx], takeP [44] s4), by omega, ⟨rfl, by show ([] ++ [Val.mk kx tx nx vx]).length + k = 67; omega, by show ([] ++ [nm]).length = ([] ++ [Val.mk kx tx nx vx]).length; rw [hnl, hvl, hnn], by show ([] ++ [Val.mk kx tx nx vx]).length ≤ 65; omega, k7 _ (.inl rfl), keep _ (.inl rfl), hi⟩, ?_, ?_⟩
              · try unfold ms42_0
                exact A0 tt
              · show _ = HQ ([] ++ [nm]) ([] ++ [.mk kx tx nx vx]) (takeP [44] s4)
                rw [HQ_cons _ _ hne, hvl]
                rfl
            | false =>
              rw [if_neg (by decide)] at hi t5
              refine G1 F4 tt tt (an b3.go (an t4.go (an t5.go (an g5.go tt)))) tt ⟨?_⟩
              refine ⟨k, (k, [] ++ [nm], [] ++ [.mk kx tx nx vx], giveP 2 s4), by omega, ⟨rfl, by show ([] ++ [Val.mk kx tx nx vx]).length + k = 67; omega, by show ([] ++ [nm]).length = ([] ++ [Val.mk kx tx nx vx]).length; rw [hnl, hvl, hnn], by show ([] ++ [Val.mk kx tx nx vx]).length ≤ 65; omega, k7 _ (.inr rfl), keep _ (.inr rfl), hi⟩, ?_, ?_⟩
              · try unfold ms42_0
                exact A0 tt
              · show _ = HQ ([] ++ [nm]) ([] ++ [.mk kx tx nx vx]) (giveP 2 s4)
                rw [HQ_cons _ _ hne, hvl]
                rfl
    have htk : List.take (vs.length * 4) (cellsL vs) = cellsL vs := List.take_of_length_le (by omega)
    have hls := strs_length ns
    have hts : List.take vs.length (strs ns) = strs ns := List.take_of_length_le (by omega)
    have hss : strs ns ++ [stA nm] = strs (ns ++ [nm]) := by simp [strs]
    have hxs' := hxs.symm
    have hn0 : 0 < vs.length := List.length_pos_iff.2 hv
    have en : vs.length - 1 + 1 = vs.length := by omega
    have hzz : afz [3] [.sl 3 (vs.length - 1) 0 vs.length vs.length 1 false] [RB s2, ⟨[ivC 6, stA ⟨#[]⟩, .sl 3 (vs.length - 1) 0 vs.length vs.length 1 false, .sl 4 (vs.length - 1) 0 vs.length vs.length 4 false], 0, true, 26⟩, zB, ⟨strs ns, vs.length - 1, true, 9⟩, ⟨cellsL vs, vs.length - 1, true, 26⟩] fun args' _ => (∀ a ∈ args', NR a) ∧ MCall Tryd.prog glob 55 args' (RB s2) (.v (.string nm)) (RB s2') := by
      simp (disch := first | exact dch | fail) only [afz, fzV, fzS, fz_ints, List.map_cons, List.map_nil, List.getElem?_cons_zero, List.getElem?_cons_succ, List.set_cons_zero, List.set_cons_succ, ints_length, true_and, and_true, and_self, if_true, if_false, ↓reduceIte, Nat.reduceEqDiff, Nat.reduceLeDiff, Nat.reduceMul, Nat.reduceAdd, Nat.zero_add, Nat.mul_one, Nat.le_refl, List.length_replicate, List.drop_zero, ints_drop, ints_take, List.take_of_length_le, false_and, and_false, reduceCtorEq, Bool.false_eq_true, forall_const, if_pos, if_neg, hts, hls]
      (repeat (with_reducible refine And.intro acl ?_))
      have := nmm none
      rw [hnn] at this
      exact ⟨List.forall_mem_cons.2 ⟨NR.vsl (NR.strs _), fun _ h => absurd h List.not_mem_nil⟩, this⟩
    by_cases h6 : 64 ≤ vs.length
    · rw [if_pos h6] at hs2
      subst hs2
      have d64 : decide ((vs.length : Int) ≥ 64) = true := by rw [decide_eq_true_eq]; omega
      try unfold ms42_0
      refine M1 tt ⟨?_⟩
      rw [HQ_cons ns vs hv]
      refine G1 F4 (an d64 tt) tt (an g11.go tt) tt ⟨?_⟩
      refine lavc_lateq [.ptr 1 0 2, .sl 3 (vs.length - 1) 0 vs.length vs.length 1 false, .ptr 0 0 0, .ptr 1 0 2, .sl 3 (vs.length - 1) 0 vs.length vs.length 1 false] ?_ ?_ <;> simp only [lputs, o1_d, o2_d, o3_d, o4_d, tput, List.set_cons_succ, List.set_cons_zero]
      · (simp only [lfreesAt]; repeat (first | exact trivial | (refine And.intro (by unfold lfreeAt; unfold aopO; simp (disch := first | exact dch | fail) only [go_sem, Nat.reduceAdd, Nat.reduceSub, reduceIte, Nat.reduceEqDiff, Int.reduceToNat, Int.reduceBEq, Int.reduceBNe]; (repeat (with_reducible refine And.intro acl ?_)); first | exact ⟨rfl, fun d h => by cases h; rfl⟩ | exact fun d h => by cases h; rfl | exact Or.inr ⟨rfl, fun d h => by cases h; rfl⟩ | exact Or.inr (fun d h => by cases h; rfl) | exact Or.inl ⟨rfl, fun d h => by cases h; rfl⟩) ?_)))
      · refine G1 F3 tt tt tt tt ⟨?_⟩
        repeat (first
          | ((with_reducible refine lopsF_step ?_ fun K hK => ?_); (case _ => (simp only [lfreesAt]; repeat (first | exact trivial | (refine And.intro (by unfold lfreeAt; unfold aopO; simp (disch := first | exact dch | fail) only [go_sem, Nat.reduceAdd, Nat.reduceSub, reduceIte, Nat.reduceEqDiff, Int.reduceToNat, Int.reduceBEq, Int.reduceBNe, splice, List.take_succ_cons, List.take_zero, List.drop_succ_cons, List.drop_zero, List.drop_nil, List.cons_append, List.nil_append, List.append_nil, List.length_cons, List.length_nil, List.replicate_succ, List.replicate_zero, List.flatten_cons, List.flatten_nil, Nat.reduceMul, Nat.reduceAdd, Nat.reduceLeDiff]; (repeat (with_reducible refine And.intro acl ?_)); first | exact ⟨rfl, fun d h => by cases h; rfl⟩ | exact fun d h => by cases h; rfl | exact Or.inr ⟨rfl, fun d h => by cases h; rfl⟩ | exact Or.inr (fun d h => by cases h; rfl) | exact Or.inl ⟨rfl, fun d h => by cases h; rfl⟩) ?_)))); with_reducible skip; simp (disch := first | exact dch | fail) only [go_sem, Nat.reduceAdd, Nat.reduceSub, reduceIte, Nat.reduceEqDiff, Int.reduceToNat, Int.reduceBEq, Int.reduceBNe, splice, List.take_succ_cons, List.take_zero, List.drop_succ_cons, List.drop_zero, List.drop_nil, List.cons_append, List.nil_append, List.append_nil, List.length_cons, List.length_nil, List.replicate_succ, List.replicate_zero, List.flatten_cons, List.flatten_nil, Nat.reduceMul, Nat.reduceAdd, Nat.reduceLeDiff]; (repeat (with_reducible refine And.intro acl ?_)); (first | (refine hK _ _ ?_) | (refine ⟨_, rfl, hK _ _ ?_⟩) | (refine Or.inr (hK _ _ ?_)) | (refine Or.inr ⟨rfl, hK _ _ ?_⟩) | (refine ⟨_, _, Or.inl ((MCall.live ctx.nr (b := 0) [3] rfl (by decide) rfl rfl (RB.nr _) (RB.fl _) (Flat.v _) hzz)), (by first | exact ⟨[], (List.append_nil _).symm⟩ | exact ⟨_, rfl⟩), hK _ _ ?_⟩) | (refine ⟨_, _, Or.inl ((MCall.live ctx.nr (b := 0) [3] rfl (by decide) rfl rfl (RB.nr _) (RB.fl _) (Flat.v _) hzz)), hK _ _ ?_⟩) | (refine ⟨_, _, Or.inl ((MCall.live ctx.nr (b := 0) [3] rfl (by decide) rfl rfl (RB.nr _) (RB.fl _) (Flat.v _) hzz)).weakQ, hK _ _ ?_⟩)); clear hK K)
          | ((with_reducible refine lopsF_nil ?_ ?_); (case _ => (simp only [lfreesAt]; repeat (first | exact trivial | (refine And.intro (by unfold lfreeAt; unfold aopO; simp (disch := first | exact dch | fail) only [go_sem, Nat.reduceAdd, Nat.reduceSub, reduceIte, Nat.reduceEqDiff, Int.reduceToNat, Int.reduceBEq, Int.reduceBNe, splice, List.take_succ_cons, List.take_zero, List.drop_succ_cons, List.drop_zero, List.drop_nil, List.cons_append, List.nil_append, List.append_nil, List.length_cons, List.length_nil, List.replicate_succ, List.replicate_zero, List.flatten_cons, List.flatten_nil, Nat.reduceMul, Nat.reduceAdd, Nat.reduceLeDiff]; (repeat (with_reducible refine And.intro acl ?_)); first | exact ⟨rfl, fun d h => by cases h; rfl⟩ | exact fun d h => by cases h; rfl | exact Or.inr ⟨rfl, fun d h => by cases h; rfl⟩ | exact Or.inr (fun d h => by cases h; rfl) | exact Or.inl ⟨rfl, fun d h => by cases h; rfl⟩) ?_)))))
          | (with_reducible first | refine lavc_reg ?_ | refine lavc_seq ?_ | refine lavc_block ?_ | refine lavc_skip ?_ | refine lavc_exit ?_ | refine lavc_ret ?_ | refine lavcR_round ?_)
          | (simp only [↓reduceIte, Nat.reduceEqDiff, reduceCtorEq]))
        refine G1 F4 (an htk (an hln (an hxs' (an en (an hts (an hls (an hss tt))))))) tt tt tt ⟨?_⟩
        refine lavc_lateq [.ptr 1 0 3, .sl 4 (vs.length - 1) 0 vs.length vs.length 4 false, .ptr 0 0 0, ivC d, ivC (d + 1)] ?_ ?_ <;> simp only [lputs, o1_d, o2_d, o3_d, o4_d, tput, List.set_cons_succ, List.set_cons_zero]
        · (simp only [lfreesAt]; repeat (first | exact trivial | (refine And.intro (by unfold lfreeAt; unfold aopO; simp (disch := first | exact dch | fail) only [go_sem, Nat.reduceAdd, Nat.reduceSub, reduceIte, Nat.reduceEqDiff, Int.reduceToNat, Int.reduceBEq, Int.reduceBNe, ed]; (repeat (with_reducible refine And.intro acl ?_)); first | exact ⟨rfl, fun d h => by cases h; rfl⟩ | exact fun d h => by cases h; rfl | exact Or.inr ⟨rfl, fun d h => by cases h; rfl⟩ | exact Or.inr (fun d h => by cases h; rfl) | exact Or.inl ⟨rfl, fun d h => by cases h; rfl⟩) ?_)))
        · refine G1 F3 tt tt tt tt ⟨?_⟩
          repeat (first
            | ((with_reducible refine lopsF_step ?_ fun K hK => ?_); (case _ => (simp only [lfreesAt]; repeat (first | exact trivial | (refine And.intro (by unfold lfreeAt; unfold aopO; simp (disch := first | exact dch | fail) only [go_sem, Nat.reduceAdd, Nat.reduceSub, reduceIte, Nat.reduceEqDiff, Int.reduceToNat, Int.reduceBEq, Int.reduceBNe, ed, splice, List.take_succ_cons, List.take_zero, List.drop_succ_cons, List.drop_zero, List.drop_nil, List.cons_append, List.nil_append, List.append_nil, List.length_cons, List.length_nil, List.replicate_succ, List.replicate_zero, List.flatten_cons, List.flatten_nil, Nat.reduceMul, Nat.reduceAdd, Nat.reduceLeDiff]; (repeat (with_reducible refine And.intro acl ?_)); first | exact ⟨rfl, fun d h => by cases h; rfl⟩ | exact fun d h => by cases h; rfl | exact Or.inr ⟨rfl, fun d h => by cases h; rfl⟩ | exact Or.inr (fun d h => by cases h; rfl) | exact Or.inl ⟨rfl, fun d h => by cases h; rfl⟩) ?_)))); with_reducible skip; simp (disch := first | exact dch | fail) only [go_sem, Nat.reduceAdd, Nat.reduceSub, reduceIte, Nat.reduceEqDiff, Int.reduceToNat, Int.reduceBEq, Int.reduceBNe, ed, splice, List.take_succ_cons, List.take_zero, List.drop_succ_cons, List.drop_zero, List.drop_nil, List.cons_append, List.nil_append, List.append_nil, List.length_cons, List.length_nil, List.replicate_succ, List.replicate_zero, List.flatten_cons, List.flatten_nil, Nat.reduceMul, Nat.reduceAdd, Nat.reduceLeDiff]; (repeat (with_reducible refine And.intro acl ?_)); (first | (refine hK _ _ ?_) | (refine ⟨_, rfl, hK _ _ ?_⟩) | (refine Or.inr (hK _ _ ?_)) | (refine Or.inr ⟨rfl, hK _ _ ?_⟩) | (refine ⟨_, _, Or.inl (vm.go _ _ rfl), (by first | exact ⟨[], (List.append_nil _).symm⟩ | exact ⟨_, rfl⟩), hK _ _ ?_⟩) | (refine ⟨_, _, Or.inl (vm.go _ _ rfl), hK _ _ ?_⟩) | (refine ⟨_, _, Or.inl (vm.go _ _ rfl).weakQ, hK _ _ ?_⟩)); clear hK K)
            | ((with_reducible refine lopsF_nil ?_ ?_); (case _ => (simp only [lfreesAt]; repeat (first | exact trivial | (refine And.intro (by unfold lfreeAt; unfold aopO; simp (disch := first | exact dch | fail) only [go_sem, Nat.reduceAdd, Nat.reduceSub, reduceIte, Nat.reduceEqDiff, Int.reduceToNat, Int.reduceBEq, Int.reduceBNe, ed, splice, List.take_succ_cons, List.take_zero, List.drop_succ_cons, List.drop_zero, List.drop_nil, List.cons_append, List.nil_append, List.append_nil, List.length_cons, List.length_nil, List.replicate_succ, List.replicate_zero, List.flatten_cons, List.flatten_nil, Nat.reduceMul, Nat.reduceAdd, Nat.reduceLeDiff]; (repeat (with_reducible refine And.intro acl ?_)); first | exact ⟨rfl, fun d h => by cases h; rfl⟩ | exact fun d h => by cases h; rfl | exact Or.inr ⟨rfl, fun d h => by cases h; rfl⟩ | exact Or.inr (fun d h => by cases h; rfl) | exact Or.inl ⟨rfl, fun d h => by cases h; rfl⟩) ?_)))))
            | (with_reducible first | refine lavc_reg ?_ | refine lavc_seq ?_ | refine lavc_block ?_ | refine lavc_skip ?_ | refine lavc_exit ?_ | refine lavc_ret ?_ | refine lavcR_round ?_)
            | (simp only [↓reduceIte, Nat.reduceEqDiff, reduceCtorEq]))
          cases q with
          | true =>
            rw [if_pos rfl] at hi t4
            subst hi
            refine G1 F4 (an htk (an hln (an hxs' (an en (an hts (an hls (an hss tt))))))) tt (an b3.go (an t4.go tt)) tt ⟨?_⟩
            refine R1 tt ⟨?_⟩
            exact end1V (view6 ⟨#[]⟩ (ns ++ [nm]) (vs ++ [Val.mk kx tx nx vx]) 3 vs.length 4 vs.length (by decide) (by decide) rfl rfl _ hvl.symm (by rw [hnl, hnn])) (RB.nr _) rfl
          | false =>
            rw [if_neg (by decide)] at hi t4
            cases e with
            | true =>
              rw [if_pos rfl] at hi t5
              refine G1 F4 (an htk (an hln (an hxs' (an en (an hts (an hls (an hss tt))))))) tt (an b3.go (an t4.go (an t5.go tt))) tt ⟨?_⟩
              refine ⟨k, (k, ns ++ [nm], vs ++ [.mk kx tx nx vx], takeP [44] s4), by omega, ⟨rfl, by show (vs ++ [Val.mk kx tx nx vx]).length + k = 67; omega, by show (ns ++ [nm]).length = (vs ++ [Val.mk kx tx nx vx]).length; rw [hnl, hvl, hnn], by show (vs ++ [Val.mk kx tx nx vx]).length ≤ 65; omega, k7 _ (.inl rfl), keep _ (.inl rfl), hi⟩, ?_, ?_⟩
              · try unfold ms42_0
                exact A0 tt
              · show _ = HQ (ns ++ [nm]) (vs ++ [.mk kx tx nx vx]) (takeP [44] s4)
                rw [HQ_cons _ _ hne, hvl]
                rfl
            | false =>
              rw [if_neg (by decide)] at hi t5
              refine G1 F4 (an htk (an hln (an hxs' (an en (an hts (an hls (an hss tt))))))) tt (an b3.go (an t4.go (an t5.go (an g5.go tt)))) tt ⟨?_⟩
              refine ⟨k, (k, ns ++ [nm], vs ++ [.mk kx tx nx vx], giveP 2 s4), by omega, ⟨rfl, by show (vs ++ [Val.mk kx tx nx vx]).length + k = 67; omega, by show (ns ++ [nm]).length = (vs ++ [Val.mk kx tx nx vx]).length; rw [hnl, hvl, hnn], by show (vs ++ [Val.mk kx tx nx vx]).length ≤ 65; omega, k7 _ (.inr rfl), keep _ (.inr rfl), hi⟩, ?_, ?_⟩
              · try unfold ms42_0
                exact A0 tt
              · show _ = HQ (ns ++ [nm]) (vs ++ [.mk kx tx nx vx]) (giveP 2 s4)
                rw [HQ_cons _ _ hne, hvl]
                rfl
    · rw [if_neg h6] at hs2
      subst hs2
      have d64 : decide ((vs.length : Int) ≥ 64) = false := by rw [decide_eq_false_iff_not]; omega
      try unfold ms42_0
      refine M1 tt ⟨?_⟩
      rw [HQ_cons ns vs hv]
      refine G1 F4 (an d64 tt) tt tt tt ⟨?_⟩
      refine lavc_lateq [.ptr 1 0 2, .sl 3 (vs.length - 1) 0 vs.length vs.length 1 false, .ptr 0 0 0, .ptr 1 0 2, .sl 3 (vs.length - 1) 0 vs.length vs.length 1 false] ?_ ?_ <;> simp only [lputs, o1_d, o2_d, o3_d, o4_d, tput, List.set_cons_succ, List.set_cons_zero]
      · (simp only [lfreesAt]; repeat (first | exact trivial | (refine And.intro (by unfold lfreeAt; unfold aopO; simp (disch := first | exact dch | fail) only [go_sem, Nat.reduceAdd, Nat.reduceSub, reduceIte, Nat.reduceEqDiff, Int.reduceToNat, Int.reduceBEq, Int.reduceBNe]; (repeat (with_reducible refine And.intro acl ?_)); first | exact ⟨rfl, fun d h => by cases h; rfl⟩ | exact fun d h => by cases h; rfl | exact Or.inr ⟨rfl, fun d h => by cases h; rfl⟩ | exact Or.inr (fun d h => by cases h; rfl) | exact Or.inl ⟨rfl, fun d h => by cases h; rfl⟩) ?_)))
      · refine G1 F3 tt tt tt tt ⟨?_⟩
        repeat (first
          | ((with_reducible refine lopsF_step ?_ fun K hK => ?_); (case _ => (simp only [lfreesAt]; repeat (first | exact trivial | (refine And.intro (by unfold lfreeAt; unfold aopO; simp (disch := first | exact dch | fail) only [go_sem, Nat.reduceAdd, Nat.reduceSub, reduceIte, Nat.reduceEqDiff, Int.reduceToNat, Int.reduceBEq, Int.reduceBNe, splice, List.take_succ_cons, List.take_zero, List.drop_succ_cons, List.drop_zero, List.drop_nil, List.cons_append, List.nil_append, List.append_nil, List.length_cons, List.length_nil, List.replicate_succ, List.replicate_zero, List.flatten_cons, List.flatten_nil, Nat.reduceMul, Nat.reduceAdd, Nat.reduceLeDiff]; (repeat (with_reducible refine And.intro acl ?_)); first | exact ⟨rfl, fun d h => by cases h; rfl⟩ | exact fun d h => by cases h; rfl | exact Or.inr ⟨rfl, fun d h => by cases h; rfl⟩ | exact Or.inr (fun d h => by cases h; rfl) | exact Or.inl ⟨rfl, fun d h => by cases h; rfl⟩) ?_)))); with_reducible skip; simp (disch := first | exact dch | fail) only [go_sem, Nat.reduceAdd, Nat.reduceSub, reduceIte, Nat.reduceEqDiff, Int.reduceToNat, Int.reduceBEq, Int.reduceBNe, splice, List.take_succ_cons, List.take_zero, List.drop_succ_cons, List.drop_zero, List.drop_nil, List.cons_append, List.nil_append, List.append_nil, List.length_cons, List.length_nil, List.replicate_succ, List.replicate_zero, List.flatten_cons, List.flatten_nil, Nat.reduceMul, Nat.reduceAdd, Nat.reduceLeDiff]; (repeat (with_reducible refine And.intro acl ?_)); (first | (refine hK _ _ ?_) | (refine ⟨_, rfl, hK _ _ ?_⟩) | (refine Or.inr (hK _ _ ?_)) | (refine Or.inr ⟨rfl, hK _ _ ?_⟩) | (refine ⟨_, _, Or.inl ((MCall.live ctx.nr (b := 0) [3] rfl (by decide) rfl rfl (RB.nr _) (RB.fl _) (Flat.v _) hzz)), (by first | exact ⟨[], (List.append_nil _).symm⟩ | exact ⟨_, rfl⟩), hK _ _ ?_⟩) | (refine ⟨_, _, Or.inl ((MCall.live ctx.nr (b := 0) [3] rfl (by decide) rfl rfl (RB.nr _) (RB.fl _) (Flat.v _) hzz)), hK _ _ ?_⟩) | (refine ⟨_, _, Or.inl ((MCall.live ctx.nr (b := 0) [3] rfl (by decide) rfl rfl (RB.nr _) (RB.fl _) (Flat.v _) hzz)).weakQ, hK _ _ ?_⟩)); clear hK K)
          | ((with_reducible refine lopsF_nil ?_ ?_); (case _ => (simp only [lfreesAt]; repeat (first | exact trivial | (refine And.intro (by unfold lfreeAt; unfold aopO; simp (disch := first | exact dch | fail) only [go_sem, Nat.reduceAdd, Nat.reduceSub, reduceIte, Nat.reduceEqDiff, Int.reduceToNat, Int.reduceBEq, Int.reduceBNe, splice, List.take_succ_cons, List.take_zero, List.drop_succ_cons, List.drop_zero, List.drop_nil, List.cons_append, List.nil_append, List.append_nil, List.length_cons, List.length_nil, List.replicate_succ, List.replicate_zero, List.flatten_cons, List.flatten_nil, Nat.reduceMul, Nat.reduceAdd, Nat.reduceLeDiff]; (repeat (with_reducible refine And.intro acl ?_)); first | exact ⟨rfl, fun d h => by cases h; rfl⟩ | exact fun d h => by cases h; rfl | exact Or.inr ⟨rfl, fun d h => by cases h; rfl⟩ | exact Or.inr (fun d h => by cases h; rfl) | exact Or.inl ⟨rfl, fun d h => by cases h; rfl⟩) ?_)))))
          | (with_reducible first | refine lavc_reg ?_ | refine lavc_seq ?_ | refine lavc_block ?_ | refine lavc_skip ?_ | refine lavc_exit ?_ | refine lavc_ret ?_ | refine lavcR_round ?_)
          | (simp only [↓reduceIte, Nat.reduceEqDiff, reduceCtorEq]))
        refine G1 F4 (an htk (an hln (an hxs' (an en (an hts (an hls (an hss tt))))))) tt tt tt ⟨?_⟩
        refine lavc_lateq [.ptr 1 0 3, .sl 4 (vs.length - 1) 0 vs.length vs.length 4 false, .ptr 0 0 0, ivC d, ivC (d + 1)] ?_ ?_ <;> simp only [lputs, o1_d, o2_d, o3_d, o4_d, tput, List.set_cons_succ, List.set_cons_zero]
        · (simp only [lfreesAt]; repeat (first | exact trivial | (refine And.intro (by unfold lfreeAt; unfold aopO; simp (disch := first | exact dch | fail) only [go_sem, Nat.reduceAdd, Nat.reduceSub, reduceIte, Nat.reduceEqDiff, Int.reduceToNat, Int.reduceBEq, Int.reduceBNe, ed]; (repeat (with_reducible refine And.intro acl ?_)); first | exact ⟨rfl, fun d h => by cases h; rfl⟩ | exact fun d h => by cases h; rfl | exact Or.inr ⟨rfl, fun d h => by cases h; rfl⟩ | exact Or.inr (fun d h => by cases h; rfl) | exact Or.inl ⟨rfl, fun d h => by cases h; rfl⟩) ?_)))
        · refine G1 F3 tt tt tt tt ⟨?_⟩
          repeat (first
            | ((with_reducible refine lopsF_step ?_ fun K hK => ?_); (case _ => (simp only [lfreesAt]; repeat (first | exact trivial | (refine And.intro (by unfold lfreeAt; unfold aopO; simp (disch := first | exact dch | fail) only [go_sem, Nat.reduceAdd, Nat.reduceSub, reduceIte, Nat.reduceEqDiff, Int.reduceToNat, Int.reduceBEq, Int.reduceBNe, ed, splice, List.take_succ_cons, List.take_zero, List.drop_succ_cons, List.drop_zero, List.drop_nil, List.cons_append, List.nil_append, List.append_nil, List.length_cons, List.length_nil, List.replicate_succ, List.replicate_zero, List.flatten_cons, List.flatten_nil, Nat.reduceMul, Nat.reduceAdd, Nat.reduceLeDiff]; (repeat (with_reducible refine And.intro acl ?_)); first | exact ⟨rfl, fun d h => by cases h; rfl⟩ | exact fun d h => by cases h; rfl | exact Or.inr ⟨rfl, fun d h => by cases h; rfl⟩ | exact Or.inr (fun d h => by cases h; rfl) | exact Or.inl ⟨rfl, fun d h => by cases h; rfl⟩) ?_)))); with_reducible skip; simp (disch := first | exact dch | fail) only [go_sem, Nat.reduceAdd, Nat.reduceSub, reduceIte, Nat.reduceEqDiff, Int.reduceToNat, Int.reduceBEq, Int.reduceBNe, ed, splice, List.take_succ_cons, List.take_zero, List.drop_succ_cons, List.drop_zero, List.drop_nil, List.cons_append, List.nil_append, List.append_nil, List.length_cons, List.length_nil, List.replicate_succ, List.replicate_zero, List.flatten_cons, List.flatten_nil, Nat.reduceMul, Nat.reduceAdd, Nat.reduceLeDiff]; (repeat (with_reducible refine And.intro acl ?_)); (first | (refine hK _ _ ?_) | (refine ⟨_, rfl, hK _ _ ?_⟩) | (refine Or.inr (hK _ _ ?_)) | (refine Or.inr ⟨rfl, hK _ _ ?_⟩) | (refine ⟨_, _, Or.inl (vm.go _ _ rfl), (by first | exact ⟨[], (List.append_nil _).symm⟩ | exact ⟨_, rfl⟩), hK _ _ ?_⟩) | (refine ⟨_, _, Or.inl (vm.go _ _ rfl), hK _ _ ?_⟩) | (refine ⟨_, _, Or.inl (vm.go _ _ rfl).weakQ, hK _ _ ?_⟩)); clear hK K)
            | ((with_reducible refine lopsF_nil ?_ ?_); (case _ => (simp only [lfreesAt]; repeat (first | exact trivial | (refine And.intro (by unfold lfreeAt; unfold aopO; simp (disch := first | exact dch | fail) only [go_sem, Nat.reduceAdd, Nat.reduceSub, reduceIte, Nat.reduceEqDiff, Int.reduceToNat, Int.reduceBEq, Int.reduceBNe, ed, splice, List.take_succ_cons, List.take_zero, List.drop_succ_cons, List.drop_zero, List.drop_nil, List.cons_append, List.nil_append, List.append_nil, List.length_cons, List.length_nil, List.replicate_succ, List.replicate_zero, List.flatten_cons, List.flatten_nil, Nat.reduceMul, Nat.reduceAdd, Nat.reduceLeDiff]; (repeat (with_reducible refine And.intro acl ?_)); first | exact ⟨rfl, fun d h => by cases h; rfl⟩ | exact fun d h => by cases h; rfl | exact Or.inr ⟨rfl, fun d h => by cases h; rfl⟩ | exact Or.inr (fun d h => by cases h; rfl) | exact Or.inl ⟨rfl, fun d h => by cases h; rfl⟩) ?_)))))
            | (with_reducible first | refine lavc_reg ?_ | refine lavc_seq ?_ | refine lavc_block ?_ | refine lavc_skip ?_ | refine lavc_exit ?_ | refine lavc_ret ?_ | refine lavcR_round ?_)
            | (simp only [↓reduceIte, Nat.reduceEqDiff, reduceCtorEq]))
          cases q with
          | true =>
            rw [if_pos rfl] at hi t4
            subst hi
            refine G1 F4 (an htk (an hln (an hxs' (an en (an hts (an hls (an hss tt))))))) tt (an b3.go (an t4.go tt)) tt ⟨?_⟩
            refine R1 tt ⟨?_⟩
            exact end1V (view6 ⟨#[]⟩ (ns ++ [nm]) (vs ++ [Val.mk kx tx nx vx]) 3 vs.length 4 vs.length (by decide) (by decide) rfl rfl _ hvl.symm (by rw [hnl, hnn])) (RB.nr _) rfl
          | false =>
            rw [if_neg (by decide)] at hi t4
            cases e with
            | true =>
              rw [if_pos rfl] at hi t5
              refine G1 F4 (an htk (an hln (an hxs' (an en (an hts (an hls (an hss tt))))))) tt (an b3.go (an t4.go (an t5.go tt))) tt ⟨?_⟩
              refine ⟨k, (k, ns ++ [nm], vs ++ [.mk kx tx nx vx], takeP [44] s4), by omega, ⟨rfl, by show (vs ++ [Val.mk kx tx nx vx]).length + k = 67; omega, by show (ns ++ [nm]).length = (vs ++ [Val.mk kx tx nx vx]).length; rw [hnl, hvl, hnn], by show (vs ++ [Val.mk kx tx nx vx]).length ≤ 65; omega, k7 _ (.inl rfl), keep _ (.inl rfl), hi⟩, ?_, ?_⟩
              · try unfold ms42_0
                exact A0 tt
              · show _ = HQ (ns ++ [nm]) (vs ++ [.mk kx tx nx vx]) (takeP [44] s4)
                rw [HQ_cons _ _ hne, hvl]
                rfl
            | false =>
              rw [if_neg (by decide)] at hi t5
              refine G1 F4 (an htk (an hln (an hxs' (an en (an hts (an hls (an hss tt))))))) tt (an b3.go (an t4.go (an t5.go (an g5.go tt)))) tt ⟨?_⟩
              refine ⟨k, (k, ns ++ [nm], vs ++ [.mk kx tx nx vx], giveP 2 s4), by omega, ⟨rfl, by show (vs ++ [Val.mk kx tx nx vx]).length + k = 67; omega, by show (ns ++ [nm]).length = (vs ++ [Val.mk kx tx nx vx]).length; rw [hnl, hvl, hnn], by show (vs ++ [Val.mk kx tx nx vx]).length ≤ 65; omega, k7 _ (.inr rfl), keep _ (.inr rfl), hi⟩, ?_, ?_⟩
              · try unfold ms42_0
                exact A0 tt
              · show _ = HQ (ns ++ [nm]) (vs ++ [.mk kx tx nx vx]) (giveP 2 s4)
                rw [HQ_cons _ _ hne, hvl]
                rfl
end Go.Abs.S
namespace Go.Abs.S
attribute [local go_sem] lguard aopO aop aenv toAV tput aLoad aStore vcells aBin aNilI aUn aAlloc aBox aBuild aBSlice afill aConv isIntT aappZ aCap aArr aMM aMake aSlice bnd3 bnd aFldAddr aFld aIdxAddr aIdx aExt aLen aCopy aEq0 bAV aUb aapp aappQ agh acont List.getD_cons_zero List.getD_cons_succ List.set_cons_zero List.set_cons_succ List.getElem?_cons_zero List.getElem?_cons_succ List.length_cons List.length_nil List.map_cons List.map_nil ints_length if_true if_false Bool.false_eq_true true_and and_true eq_self ne_eq not_false_eq_true not_true_eq_false beq_self_eq_true Nat.zero_add Nat.add_zero Nat.mul_one Nat.zero_mul Int.toNat_natCast List.toList_toArray List.all_cons List.all_nil AV.one Value.oneCell' Bool.and_true Bool.true_and forall_const true_implies false_implies implies_true Option.map_some Option.map_none Option.isSome_some Option.isSome_none imp_self rdP_flat rdP_row splice_one ints_set ints_get List.append_nil List.cons_append List.nil_append List.getElem?_toArray List.drop_zero ints_drop ints_take List.take_of_length_le splice_all ints_one Option.some.injEq Option.getD_some List.length_replicate zArr List.map_replicate rep_ints splice_intsR List.length_set List.length_append List.flatten_replicate_singleton rep_slice rep_string rep_bool rep_iface List.replicate_zero if_pos if_neg List.mapM_cons List.mapM_nil Option.pure_def Option.bind_eq_bind Option.bind_some Bool.true_eq_false Bool.not_false Bool.not_true get_concat set_concat
open Go.Proofs
set_option linter.unusedVariables false
set_option linter.unusedSimpArgs false
set_option maxRecDepth 100000
set_option maxHeartbeats 8000000
theorem sep_len (p : List UInt8) (e : Int) (s : St) : (if p.isPrefixOf s.1 = true then takeP p s else giveP e s).1.length ≤ s.1.length := by
  split
  · exact take_len _ _
  · exact give_len _ _
theorem parts_len (V : St → Val × St) (kind : Int) (shut : List UInt8) (hz : ∀ s, (V s).2.1.length ≤ s.1.length) : ∀ (n : Nat) (ns : List ByteArray) (vs : List Val) (s : St), (partsP V kind shut n ns vs s).2.1.length ≤ s.1.length
  | 0, ns, vs, s => Nat.le_refl _
  | n + 1, ns, vs, s => by
    rw [partsP]
    split
    · exact Nat.le_refl _
    · simp only
      have h1 : (if 64 ≤ vs.length then giveP 11 s else s).1.length ≤ s.1.length := by
        split
        · exact give_len _ _
        · exact Nat.le_refl _
      obtain ⟨s1, hs1⟩ : ∃ x, (if 64 ≤ vs.length then giveP 11 s else s) = x := ⟨_, rfl⟩
      rw [hs1] at h1 ⊢
      have h2 : (if kind = 6 then (nameP ns s1).2 else s1).1.length ≤ s1.1.length := by
        split
        · exact name_len _ _
        · exact Nat.le_refl _
      obtain ⟨s2, hs2⟩ : ∃ x, (if kind = 6 then (nameP ns s1).2 else s1) = x := ⟨_, rfl⟩
      rw [hs2] at h2 ⊢
      have h3 := hz s2
      have h4 := blanks_len (V s2).2
      split
      · have := take_len shut (blanksP (V s2).2)
        simp only
        omega
      · refine Nat.le_trans (parts_len V kind shut hz n _ _ _) ?_
        have := sep_len [44] 2 (blanksP (V s2).2)
        omega
theorem parts_fail (V : St → Val × St) (kind : Int) (shut : List UInt8) (n : Nat) (ns : List ByteArray) (vs : List Val) (s : St) (h : s.2 ≠ 0) : (partsP V kind shut n ns vs s).2.2 ≠ 0 := by
  cases n with
  | zero => exact h
  | succ n =>
    rw [partsP, if_pos h]
    exact h
theorem partsR_len (V : St → Val × St) (kind : Int) (shut : List UInt8) (hz : ∀ s, (V s).2.1.length ≤ s.1.length) (s : St) : (partsR V kind shut s).2.1.length ≤ s.1.length := by
  unfold partsR
  split
  · exact Nat.le_trans (take_len _ _) (blanks_len _)
  · exact Nat.le_trans (parts_len V kind shut hz _ _ _ _) (blanks_len _)
theorem partsR_fail (V : St → Val × St) (kind : Int) (shut : List UInt8) (s : St) (h : s.2 ≠ 0) : (partsR V kind shut s).2.2 ≠ 0 := by
  unfold partsR
  split
  · exact h
  · exact parts_fail _ _ _ _ _ _ _ h
theorem value_len : ∀ (n : Nat) (d : Int) (s : St), (valueP n d s).2.1.length ≤ s.1.length
  | 0, d, s => Nat.le_refl _
  | n + 1, d, s => by
    rw [valueP]
    have h0 := blanks_len s
    have h1 : (if 8 < d ∧ (blanksP s).1 ≠ [] then giveP 9 (blanksP s) else blanksP s).1.length ≤ (blanksP s).1.length := by
      split
      · exact give_len _ _
      · exact Nat.le_refl _
    obtain ⟨s2, hs2⟩ : ∃ x, (if 8 < d ∧ (blanksP s).1 ≠ [] then giveP 9 (blanksP s) else blanksP s) = x := ⟨_, rfl⟩
    rw [hs2] at h1 ⊢
    have ht : ∀ p, (takeP p s2).1.length ≤ s.1.length := fun p => by
      have := take_len p s2
      omega
    split
    · exact ht _
    split
    · exact ht _
    split
    · exact ht _
    split
    · exact Nat.le_trans (text_len _ _ _) (ht _)
    split
    · exact Nat.le_trans (partsR_len _ _ _ (value_len n _) _) (ht _)
    split
    · exact Nat.le_trans (partsR_len _ _ _ (value_len n _) _) (ht _)
    split
    · have := give_len 2 s2
      show (giveP 2 s2).1.length ≤ _
      omega
    · show (s2.1.drop _).length ≤ _
      rw [List.length_drop]
      omega
theorem value_fail (n : Nat) (d : Int) (s : St) (h : s.2 ≠ 0) : (valueP n d s).2.2 ≠ 0 := by
  cases n with
  | zero => exact h
  | succ n =>
    rw [valueP]
    have h1 : (if 8 < d ∧ (blanksP s).1 ≠ [] then giveP 9 (blanksP s) else blanksP s).2 ≠ 0 := by
      split
      · exact give_fail _ _ h
      · exact h
    obtain ⟨s2, hs2⟩ : ∃ x, (if 8 < d ∧ (blanksP s).1 ≠ [] then giveP 9 (blanksP s) else blanksP s) = x := ⟨_, rfl⟩
    rw [hs2] at h1 ⊢
    have ht : ∀ p, (takeP p s2).2 ≠ 0 := fun p => h1
    split
    · exact ht _
    split
    · exact ht _
    split
    · exact ht _
    split
    · show (textR (takeP [34] s2)).2.2 ≠ 0
      rw [text_fail _ (ht _)]
      exact ht _
    split
    · exact partsR_fail _ _ _ _ (ht _)
    split
    · exact partsR_fail _ _ _ _ (ht _)
    split
    · exact give_fail _ _ h1
    · exact h1
theorem nuL_le (l : List UInt8) : nuL l ≤ l.length := by
  unfold nuL
  split
  · exact Nat.zero_le _
  · have h1 := intL_le l (sgL l) (sgL_le l)
    cases h2 : fracL l (sgL l + intL l (sgL l)) with
    | none => exact Nat.zero_le _
    | some b =>
      have h3 := fracL_le l _ b h1 h2
      rw [Option.bind_some]
      cases h4 : powL l b with
      | none => exact Nat.zero_le _
      | some c => exact powL_le l b c h3 h4
theorem value_m : ∀ (n : Nat) (d : Int), d + n = 11 → 2 ≤ n → 1 ≤ d → ∀ s : St, s.1.length ≤ 1000000 → (s.2 ≠ 0 → s.1 = []) →
    MCall Tryd.prog glob 29 [ivC d] (RB s) (vA (valueP n d s).1) (RB (valueP n d s).2)
  | 0, _, _, h, _ => absurd h (by decide)
  | n + 1, d, hdn, hn2, hd1 => fun s hs hok => by
    refine MCall.of ctx.nr rfl rfl nrs (NR.vA _) (RB.nr _) (RB.nr _) ?_
    refine lcall29 (by simp) 1 (Nat.le_refl _) ?_
    unfold lc29
    refine I1 tt ⟨?_⟩
    obtain ⟨W, hW⟩ : ∃ W, valueP (n + 1) d s = W := ⟨_, rfl⟩
    rw [hW]
    rw [valueP] at hW
    have b1 := blanks_m s
    have z1 := blanks_len s
    have o1 := blanks_ok s hok
    obtain ⟨⟨l1, f1⟩, hs1⟩ : ∃ x, blanksP s = x := ⟨_, rfl⟩
    rw [hs1] at b1 z1 o1 hW
    have o1 : f1 ≠ 0 → l1 = [] := o1
    have z1 : l1.length ≤ s.1.length := z1
    try simp only at hW
    have w1 : IntKind.i64.wrap 1 = 1 := by decide
    have w2 : IntKind.i64.wrap 2 = 2 := by decide
    have w3 : IntKind.i64.wrap 3 = 3 := by decide
    have w4 : IntKind.i64.wrap (0 + 1) = 1 := by decide
    have w5 : IntKind.i64.wrap (1 + 1) = 2 := by decide
    have w6 : IntKind.i64.wrap (2 + 1) = 3 := by decide
    by_cases h8 : 8 < d
    · -- too deep
      have tk : ∀ (p : List UInt8) (f : Int), p ≠ [] → MCall Tryd.prog glob 40 [.v (.string (bs p))] (RB ([], f)) (.v (.bool false)) (RB ([], f)) := fun p f hp => take_n p [] f (by cases p with | nil => exact absurd rfl hp | cons a p => rfl)
      have np : PCall Tryd.prog glob 43 [.v (.string (bs []))] (ivC 0) := pnum_p [] (by decide)
      have d8 : decide (d > 8) = true := by rw [decide_eq_true_eq]; omega
      cases l1 with
      | nil =>
        have q1 : decide (([] : List UInt8) = (⟨#[]⟩ : ByteArray).toList) = true := by rw [eq_nil]; rfl
        have hW : (default, giveP 2 ([], f1)) = W := by
          rw [← hW, if_neg (show ¬ (8 < d ∧ ([] : List UInt8) ≠ []) from fun h => h.2 rfl)]
          rfl
        subst hW
        have t0 : MCall Tryd.prog glob 40 [.v (.string ⟨#[110, 117, 108, 108]⟩)] (RB ([], f1)) (.v (.bool false)) (RB ([], f1)) := tk nullB _ (by decide)
        have t1 : MCall Tryd.prog glob 40 [.v (.string ⟨#[102, 97, 108, 115, 101]⟩)] (RB ([], f1)) (.v (.bool false)) (RB ([], f1)) := tk falseB _ (by decide)
        have t2 : MCall Tryd.prog glob 40 [.v (.string ⟨#[116, 114, 117, 101]⟩)] (RB ([], f1)) (.v (.bool false)) (RB ([], f1)) := tk trueB _ (by decide)
        have t3 : MCall Tryd.prog glob 40 [.v (.string ⟨#[34]⟩)] (RB ([], f1)) (.v (.bool false)) (RB ([], f1)) := tk [34] _ (by decide)
        have t4 : MCall Tryd.prog glob 40 [.v (.string ⟨#[91]⟩)] (RB ([], f1)) (.v (.bool false)) (RB ([], f1)) := tk [91] _ (by decide)
        have t5 : MCall Tryd.prog glob 40 [.v (.string ⟨#[123]⟩)] (RB ([], f1)) (.v (.bool false)) (RB ([], f1)) := tk [123] _ (by decide)
        have gm := give_m 2 ([], f1)
        repeat (first
          | (with_reducible refine lops_step fun K hK => ?_; simp (disch := first | exact dch | fail) only [go_sem, Nat.reduceAdd, Nat.reduceSub, reduceIte, Nat.reduceEqDiff, Int.reduceToNat, Int.reduceBEq, Int.reduceBNe, d8, q1]; (try (first | (refine And.intro (fun _ => ?_) (fun h => absurd h (by decide))) | (refine And.intro (fun h => absurd h (by decide)) (fun _ => ?_)))); (repeat (with_reducible refine And.intro acl ?_)); (first | (refine hK _ _ ?_) | (refine ⟨_, rfl, hK _ _ ?_⟩) | (refine Or.inl (hK _ _ ?_)) | (refine ⟨_, _, Or.inl (b1.go _ _ rfl), (by first | exact ⟨[], (List.append_nil _).symm⟩ | exact ⟨_, rfl⟩), hK _ _ ?_⟩) | (refine ⟨_, _, Or.inl (b1.go _ _ rfl), hK _ _ ?_⟩) | (refine ⟨_, _, Or.inl (b1.go _ _ rfl).weakQ, hK _ _ ?_⟩) | (refine ⟨_, _, Or.inl (t0.go _ _ rfl), (by first | exact ⟨[], (List.append_nil _).symm⟩ | exact ⟨_, rfl⟩), hK _ _ ?_⟩) | (refine ⟨_, _, Or.inl (t0.go _ _ rfl), hK _ _ ?_⟩) | (refine ⟨_, _, Or.inl (t0.go _ _ rfl).weakQ, hK _ _ ?_⟩) | (refine ⟨_, _, Or.inl (t1.go _ _ rfl), (by first | exact ⟨[], (List.append_nil _).symm⟩ | exact ⟨_, rfl⟩), hK _ _ ?_⟩) | (refine ⟨_, _, Or.inl (t1.go _ _ rfl), hK _ _ ?_⟩) | (refine ⟨_, _, Or.inl (t1.go _ _ rfl).weakQ, hK _ _ ?_⟩) | (refine ⟨_, _, Or.inl (t2.go _ _ rfl), (by first | exact ⟨[], (List.append_nil _).symm⟩ | exact ⟨_, rfl⟩), hK _ _ ?_⟩) | (refine ⟨_, _, Or.inl (t2.go _ _ rfl), hK _ _ ?_⟩) | (refine ⟨_, _, Or.inl (t2.go _ _ rfl).weakQ, hK _ _ ?_⟩) | (refine ⟨_, _, Or.inl (t3.go _ _ rfl), (by first | exact ⟨[], (List.append_nil _).symm⟩ | exact ⟨_, rfl⟩), hK _ _ ?_⟩) | (refine ⟨_, _, Or.inl (t3.go _ _ rfl), hK _ _ ?_⟩) | (refine ⟨_, _, Or.inl (t3.go _ _ rfl).weakQ, hK _ _ ?_⟩) | (refine ⟨_, _, Or.inl (t4.go _ _ rfl), (by first | exact ⟨[], (List.append_nil _).symm⟩ | exact ⟨_, rfl⟩), hK _ _ ?_⟩) | (refine ⟨_, _, Or.inl (t4.go _ _ rfl), hK _ _ ?_⟩) | (refine ⟨_, _, Or.inl (t4.go _ _ rfl).weakQ, hK _ _ ?_⟩) | (refine ⟨_, _, Or.inl (t5.go _ _ rfl), (by first | exact ⟨[], (List.append_nil _).symm⟩ | exact ⟨_, rfl⟩), hK _ _ ?_⟩) | (refine ⟨_, _, Or.inl (t5.go _ _ rfl), hK _ _ ?_⟩) | (refine ⟨_, _, Or.inl (t5.go _ _ rfl).weakQ, hK _ _ ?_⟩) | (refine ⟨_, _, Or.inl (np.go _), (by first | exact ⟨[], (List.append_nil _).symm⟩ | exact ⟨_, rfl⟩), hK _ _ ?_⟩) | (refine ⟨_, _, Or.inl (np.go _), hK _ _ ?_⟩) | (refine ⟨_, _, Or.inl (np.go _).weakQ, hK _ _ ?_⟩) | (refine ⟨_, _, Or.inl (gm.go _ _ rfl), (by first | exact ⟨[], (List.append_nil _).symm⟩ | exact ⟨_, rfl⟩), hK _ _ ?_⟩) | (refine ⟨_, _, Or.inl (gm.go _ _ rfl), hK _ _ ?_⟩) | (refine ⟨_, _, Or.inl (gm.go _ _ rfl).weakQ, hK _ _ ?_⟩)); clear hK K)
          | (with_reducible refine lops_nil ?_)
          | (with_reducible first | refine lavc_reg ?_ | refine lavc_seq ?_ | refine lavc_block ?_ | refine lavc_skip ?_ | refine lavc_exit ?_ | refine lavc_ret ?_ | refine lavcR_round ?_)
          | (refine lavc_cond rfl (fun _ => ?_) (fun hc => absurd hc (by decide)))
          | (refine lavc_cond rfl (fun hc => absurd hc (by decide)) (fun _ => ?_))
          | (simp only [↓reduceIte, Nat.reduceEqDiff, reduceCtorEq]))
        refine lavc_rounds 4 ?_
        repeat (first
          | (with_reducible refine lops_step fun K hK => ?_; simp (disch := first | exact dch | fail) only [go_sem, Nat.reduceAdd, Nat.reduceSub, reduceIte, Nat.reduceEqDiff, Int.reduceToNat, Int.reduceBEq, Int.reduceBNe, w1, w2, w3, w4, w5, w6]; (try (first | (refine And.intro (fun _ => ?_) (fun h => absurd h (by decide))) | (refine And.intro (fun h => absurd h (by decide)) (fun _ => ?_)))); (repeat (with_reducible refine And.intro acl ?_)); (first | (refine hK _ _ ?_) | (refine ⟨_, rfl, hK _ _ ?_⟩) | (refine Or.inl (hK _ _ ?_)) | (refine ⟨_, _, Or.inl (b1.go _ _ rfl), (by first | exact ⟨[], (List.append_nil _).symm⟩ | exact ⟨_, rfl⟩), hK _ _ ?_⟩) | (refine ⟨_, _, Or.inl (b1.go _ _ rfl), hK _ _ ?_⟩) | (refine ⟨_, _, Or.inl (b1.go _ _ rfl).weakQ, hK _ _ ?_⟩) | (refine ⟨_, _, Or.inl (t0.go _ _ rfl), (by first | exact ⟨[], (List.append_nil _).symm⟩ | exact ⟨_, rfl⟩), hK _ _ ?_⟩) | (refine ⟨_, _, Or.inl (t0.go _ _ rfl), hK _ _ ?_⟩) | (refine ⟨_, _, Or.inl (t0.go _ _ rfl).weakQ, hK _ _ ?_⟩) | (refine ⟨_, _, Or.inl (t1.go _ _ rfl), (by first | exact ⟨[], (List.append_nil _).symm⟩ | exact ⟨_, rfl⟩), hK _ _ ?_⟩) | (refine ⟨_, _, Or.inl (t1.go _ _ rfl), hK _ _ ?_⟩) | (refine ⟨_, _, Or.inl (t1.go _ _ rfl).weakQ, hK _ _ ?_⟩) | (refine ⟨_, _, Or.inl (t2.go _ _ rfl), (by first | exact ⟨[], (List.append_nil _).symm⟩ | exact ⟨_, rfl⟩), hK _ _ ?_⟩) | (refine ⟨_, _, Or.inl (t2.go _ _ rfl), hK _ _ ?_⟩) | (refine ⟨_, _, Or.inl (t2.go _ _ rfl).weakQ, hK _ _ ?_⟩) | (refine ⟨_, _, Or.inl (t3.go _ _ rfl), (by first | exact ⟨[], (List.append_nil _).symm⟩ | exact ⟨_, rfl⟩), hK _ _ ?_⟩) | (refine ⟨_, _, Or.inl (t3.go _ _ rfl), hK _ _ ?_⟩) | (refine ⟨_, _, Or.inl (t3.go _ _ rfl).weakQ, hK _ _ ?_⟩) | (refine ⟨_, _, Or.inl (t4.go _ _ rfl), (by first | exact ⟨[], (List.append_nil _).symm⟩ | exact ⟨_, rfl⟩), hK _ _ ?_⟩) | (refine ⟨_, _, Or.inl (t4.go _ _ rfl), hK _ _ ?_⟩) | (refine ⟨_, _, Or.inl (t4.go _ _ rfl).weakQ, hK _ _ ?_⟩) | (refine ⟨_, _, Or.inl (t5.go _ _ rfl), (by first | exact ⟨[], (List.append_nil _).symm⟩ | exact ⟨_, rfl⟩), hK _ _ ?_⟩) | (refine ⟨_, _, Or.inl (t5.go _ _ rfl), hK _ _ ?_⟩) | (refine ⟨_, _, Or.inl (t5.go _ _ rfl).weakQ, hK _ _ ?_⟩) | (refine ⟨_, _, Or.inl (np.go _), (by first | exact ⟨[], (List.append_nil _).symm⟩ | exact ⟨_, rfl⟩), hK _ _ ?_⟩) | (refine ⟨_, _, Or.inl (np.go _), hK _ _ ?_⟩) | (refine ⟨_, _, Or.inl (np.go _).weakQ, hK _ _ ?_⟩) | (refine ⟨_, _, Or.inl (gm.go _ _ rfl), (by first | exact ⟨[], (List.append_nil _).symm⟩ | exact ⟨_, rfl⟩), hK _ _ ?_⟩) | (refine ⟨_, _, Or.inl (gm.go _ _ rfl), hK _ _ ?_⟩) | (refine ⟨_, _, Or.inl (gm.go _ _ rfl).weakQ, hK _ _ ?_⟩)); clear hK K)
          | (with_reducible refine lops_nil ?_)
          | (with_reducible first | refine lavc_reg ?_ | refine lavc_seq ?_ | refine lavc_block ?_ | refine lavc_skip ?_ | refine lavc_exit ?_ | refine lavc_ret ?_ | refine lavcR_round ?_)
          | (refine lavc_cond rfl (fun _ => ?_) (fun hc => absurd hc (by decide)))
          | (refine lavc_cond rfl (fun hc => absurd hc (by decide)) (fun _ => ?_))
          | (simp only [↓reduceIte, Nat.reduceEqDiff, reduceCtorEq]))
        refine R1 tt ⟨?_⟩
        exact end1V (view4z _ _) (RB.nr _) rfl
      | cons a r =>
        have hf : f1 = 0 := Classical.byContradiction fun h => by
          have := o1 h
          cases this
        subst hf
        have q1 : decide (a :: r = (⟨#[]⟩ : ByteArray).toList) = false := by rw [eq_nil]; rfl
        have hW : (default, (([], 9) : St)) = W := by
          rw [← hW, if_pos (show 8 < d ∧ a :: r ≠ [] from ⟨h8, fun h => by cases h⟩)]
          rfl
        subst hW
        have t0 : MCall Tryd.prog glob 40 [.v (.string ⟨#[110, 117, 108, 108]⟩)] (RB ([], 9)) (.v (.bool false)) (RB ([], 9)) := tk nullB _ (by decide)
        have t1 : MCall Tryd.prog glob 40 [.v (.string ⟨#[102, 97, 108, 115, 101]⟩)] (RB ([], 9)) (.v (.bool false)) (RB ([], 9)) := tk falseB _ (by decide)
        have t2 : MCall Tryd.prog glob 40 [.v (.string ⟨#[116, 114, 117, 101]⟩)] (RB ([], 9)) (.v (.bool false)) (RB ([], 9)) := tk trueB _ (by decide)
        have t3 : MCall Tryd.prog glob 40 [.v (.string ⟨#[34]⟩)] (RB ([], 9)) (.v (.bool false)) (RB ([], 9)) := tk [34] _ (by decide)
        have t4 : MCall Tryd.prog glob 40 [.v (.string ⟨#[91]⟩)] (RB ([], 9)) (.v (.bool false)) (RB ([], 9)) := tk [91] _ (by decide)
        have t5 : MCall Tryd.prog glob 40 [.v (.string ⟨#[123]⟩)] (RB ([], 9)) (.v (.bool false)) (RB ([], 9)) := tk [123] _ (by decide)
        have g9 : MCall Tryd.prog glob 31 [ivC 9] (RB (a :: r, 0)) (.tup []) (RB ([], 9)) := give_m 9 (a :: r, 0)
        have gm : MCall Tryd.prog glob 31 [ivC 2] (RB ([], 9)) (.tup []) (RB ([], 9)) := give_m 2 ([], 9)
        repeat (first
          | (with_reducible refine lops_step fun K hK => ?_; simp (disch := first | exact dch | fail) only [go_sem, Nat.reduceAdd, Nat.reduceSub, reduceIte, Nat.reduceEqDiff, Int.reduceToNat, Int.reduceBEq, Int.reduceBNe, d8, q1]; (try (first | (refine And.intro (fun _ => ?_) (fun h => absurd h (by decide))) | (refine And.intro (fun h => absurd h (by decide)) (fun _ => ?_)))); (repeat (with_reducible refine And.intro acl ?_)); (first | (refine hK _ _ ?_) | (refine ⟨_, rfl, hK _ _ ?_⟩) | (refine Or.inl (hK _ _ ?_)) | (refine ⟨_, _, Or.inl (b1.go _ _ rfl), (by first | exact ⟨[], (List.append_nil _).symm⟩ | exact ⟨_, rfl⟩), hK _ _ ?_⟩) | (refine ⟨_, _, Or.inl (b1.go _ _ rfl), hK _ _ ?_⟩) | (refine ⟨_, _, Or.inl (b1.go _ _ rfl).weakQ, hK _ _ ?_⟩) | (refine ⟨_, _, Or.inl (t0.go _ _ rfl), (by first | exact ⟨[], (List.append_nil _).symm⟩ | exact ⟨_, rfl⟩), hK _ _ ?_⟩) | (refine ⟨_, _, Or.inl (t0.go _ _ rfl), hK _ _ ?_⟩) | (refine ⟨_, _, Or.inl (t0.go _ _ rfl).weakQ, hK _ _ ?_⟩) | (refine ⟨_, _, Or.inl (t1.go _ _ rfl), (by first | exact ⟨[], (List.append_nil _).symm⟩ | exact ⟨_, rfl⟩), hK _ _ ?_⟩) | (refine ⟨_, _, Or.inl (t1.go _ _ rfl), hK _ _ ?_⟩) | (refine ⟨_, _, Or.inl (t1.go _ _ rfl).weakQ, hK _ _ ?_⟩) | (refine ⟨_, _, Or.inl (t2.go _ _ rfl), (by first | exact ⟨[], (List.append_nil _).symm⟩ | exact ⟨_, rfl⟩), hK _ _ ?_⟩) | (refine ⟨_, _, Or.inl (t2.go _ _ rfl), hK _ _ ?_⟩) | (refine ⟨_, _, Or.inl (t2.go _ _ rfl).weakQ, hK _ _ ?_⟩) | (refine ⟨_, _, Or.inl (t3.go _ _ rfl), (by first | exact ⟨[], (List.append_nil _).symm⟩ | exact ⟨_, rfl⟩), hK _ _ ?_⟩) | (refine ⟨_, _, Or.inl (t3.go _ _ rfl), hK _ _ ?_⟩) | (refine ⟨_, _, Or.inl (t3.go _ _ rfl).weakQ, hK _ _ ?_⟩) | (refine ⟨_, _, Or.inl (t4.go _ _ rfl), (by first | exact ⟨[], (List.append_nil _).symm⟩ | exact ⟨_, rfl⟩), hK _ _ ?_⟩) | (refine ⟨_, _, Or.inl (t4.go _ _ rfl), hK _ _ ?_⟩) | (refine ⟨_, _, Or.inl (t4.go _ _ rfl).weakQ, hK _ _ ?_⟩) | (refine ⟨_, _, Or.inl (t5.go _ _ rfl), (by first | exact ⟨[], (List.append_nil _).symm⟩ | exact ⟨_, rfl⟩), hK _ _ ?_⟩) | (refine ⟨_, _, Or.inl (t5.go _ _ rfl), hK _ _ ?_⟩) | (refine ⟨_, _, Or.inl (t5.go _ _ rfl).weakQ, hK _ _ ?_⟩) | (refine ⟨_, _, Or.inl (np.go _), (by first | exact ⟨[], (List.append_nil _).symm⟩ | exact ⟨_, rfl⟩), hK _ _ ?_⟩) | (refine ⟨_, _, Or.inl (np.go _), hK _ _ ?_⟩) | (refine ⟨_, _, Or.inl (np.go _).weakQ, hK _ _ ?_⟩) | (refine ⟨_, _, Or.inl (gm.go _ _ rfl), (by first | exact ⟨[], (List.append_nil _).symm⟩ | exact ⟨_, rfl⟩), hK _ _ ?_⟩) | (refine ⟨_, _, Or.inl (gm.go _ _ rfl), hK _ _ ?_⟩) | (refine ⟨_, _, Or.inl (gm.go _ _ rfl).weakQ, hK _ _ ?_⟩) | (refine ⟨_, _, Or.inl (g9.go _ _ rfl), (by first | exact ⟨[], (List.append_nil _).symm⟩ | exact ⟨_, rfl⟩), hK _ _ ?_⟩) | (refine ⟨_, _, Or.inl (g9.go _ _ rfl), hK _ _ ?_⟩) | (refine ⟨_, _, Or.inl (g9.go _ _ rfl).weakQ, hK _ _ ?_⟩)); clear hK K)
          | (with_reducible refine lops_nil ?_)
          | (with_reducible first | refine lavc_reg ?_ | refine lavc_seq ?_ | refine lavc_block ?_ | refine lavc_skip ?_ | refine lavc_exit ?_ | refine lavc_ret ?_ | refine lavcR_round ?_)
          | (refine lavc_cond rfl (fun _ => ?_) (fun hc => absurd hc (by decide)))
          | (refine lavc_cond rfl (fun hc => absurd hc (by decide)) (fun _ => ?_))
          | (simp only [↓reduceIte, Nat.reduceEqDiff, reduceCtorEq]))
        refine lavc_rounds 4 ?_
        repeat (first
          | (with_reducible refine lops_step fun K hK => ?_; simp (disch := first | exact dch | fail) only [go_sem, Nat.reduceAdd, Nat.reduceSub, reduceIte, Nat.reduceEqDiff, Int.reduceToNat, Int.reduceBEq, Int.reduceBNe, w1, w2, w3, w4, w5, w6]; (try (first | (refine And.intro (fun _ => ?_) (fun h => absurd h (by decide))) | (refine And.intro (fun h => absurd h (by decide)) (fun _ => ?_)))); (repeat (with_reducible refine And.intro acl ?_)); (first | (refine hK _ _ ?_) | (refine ⟨_, rfl, hK _ _ ?_⟩) | (refine Or.inl (hK _ _ ?_)) | (refine ⟨_, _, Or.inl (b1.go _ _ rfl), (by first | exact ⟨[], (List.append_nil _).symm⟩ | exact ⟨_, rfl⟩), hK _ _ ?_⟩) | (refine ⟨_, _, Or.inl (b1.go _ _ rfl), hK _ _ ?_⟩) | (refine ⟨_, _, Or.inl (b1.go _ _ rfl).weakQ, hK _ _ ?_⟩) | (refine ⟨_, _, Or.inl (t0.go _ _ rfl), (by first | exact ⟨[], (List.append_nil _).symm⟩ | exact ⟨_, rfl⟩), hK _ _ ?_⟩) | (refine ⟨_, _, Or.inl (t0.go _ _ rfl), hK _ _ ?_⟩) | (refine ⟨_, _, Or.inl (t0.go _ _ rfl).weakQ, hK _ _ ?_⟩) | (refine ⟨_, _, Or.inl (t1.go _ _ rfl), (by first | exact ⟨[], (List.append_nil _).symm⟩ | exact ⟨_, rfl⟩), hK _ _ ?_⟩) | (refine ⟨_, _, Or.inl (t1.go _ _ rfl), hK _ _ ?_⟩) | (refine ⟨_, _, Or.inl (t1.go _ _ rfl).weakQ, hK _ _ ?_⟩) | (refine ⟨_, _, Or.inl (t2.go _ _ rfl), (by first | exact ⟨[], (List.append_nil _).symm⟩ | exact ⟨_, rfl⟩), hK _ _ ?_⟩) | (refine ⟨_, _, Or.inl (t2.go _ _ rfl), hK _ _ ?_⟩) | (refine ⟨_, _, Or.inl (t2.go _ _ rfl).weakQ, hK _ _ ?_⟩) | (refine ⟨_, _, Or.inl (t3.go _ _ rfl), (by first | exact ⟨[], (List.append_nil _).symm⟩ | exact ⟨_, rfl⟩), hK _ _ ?_⟩) | (refine ⟨_, _, Or.inl (t3.go _ _ rfl), hK _ _ ?_⟩) | (refine ⟨_, _, Or.inl (t3.go _ _ rfl).weakQ, hK _ _ ?_⟩) | (refine ⟨_, _, Or.inl (t4.go _ _ rfl), (by first | exact ⟨[], (List.append_nil _).symm⟩ | exact ⟨_, rfl⟩), hK _ _ ?_⟩) | (refine ⟨_, _, Or.inl (t4.go _ _ rfl), hK _ _ ?_⟩) | (refine ⟨_, _, Or.inl (t4.go _ _ rfl).weakQ, hK _ _ ?_⟩) | (refine ⟨_, _, Or.inl (t5.go _ _ rfl), (by first | exact ⟨[], (List.append_nil _).symm⟩ | exact ⟨_, rfl⟩), hK _ _ ?_⟩) | (refine ⟨_, _, Or.inl (t5.go _ _ rfl), hK _ _ ?_⟩) | (refine ⟨_, _, Or.inl (t5.go _ _ rfl).weakQ, hK _ _ ?_⟩) | (refine ⟨_, _, Or.inl (np.go _), (by first | exact ⟨[], (List.append_nil _).symm⟩ | exact ⟨_, rfl⟩), hK _ _ ?_⟩) | (refine ⟨_, _, Or.inl (np.go _), hK _ _ ?_⟩) | (refine ⟨_, _, Or.inl (np.go _).weakQ, hK _ _ ?_⟩) | (refine ⟨_, _, Or.inl (gm.go _ _ rfl), (by first | exact ⟨[], (List.append_nil _).symm⟩ | exact ⟨_, rfl⟩), hK _ _ ?_⟩) | (refine ⟨_, _, Or.inl (gm.go _ _ rfl), hK _ _ ?_⟩) | (refine ⟨_, _, Or.inl (gm.go _ _ rfl).weakQ, hK _ _ ?_⟩)); clear hK K)
          | (with_reducible refine lops_nil ?_)
          | (with_reducible first | refine lavc_reg ?_ | refine lavc_seq ?_ | refine lavc_block ?_ | refine lavc_skip ?_ | refine lavc_exit ?_ | refine lavc_ret ?_ | refine lavcR_round ?_)
          | (refine lavc_cond rfl (fun _ => ?_) (fun hc => absurd hc (by decide)))
          | (refine lavc_cond rfl (fun hc => absurd hc (by decide)) (fun _ => ?_))
          | (simp only [↓reduceIte, Nat.reduceEqDiff, reduceCtorEq]))
        refine R1 tt ⟨?_⟩
        exact end1V (view4z _ _) (RB.nr _) rfl
    have e2 : (if 8 < d ∧ l1 ≠ [] then giveP 9 (l1, f1) else (l1, f1)) = (l1, f1) := if_neg (fun h => h8 h.1)
    simp only [e2] at hW
    have d8 : decide (d > 8) = false := by rw [decide_eq_false_iff_not]; omega
    obtain ⟨p0, hp0⟩ : ∃ b, (nullB : List UInt8).isPrefixOf l1 = b := ⟨_, rfl⟩
    have t0 : MCall Tryd.prog glob 40 [.v (.string ⟨#[110, 117, 108, 108]⟩)] (RB (l1, f1)) (.v (.bool p0)) (RB (if p0 = true then takeP nullB (l1, f1) else (l1, f1))) := takeT nullB (l1, f1) p0 hp0
    obtain ⟨p1, hp1⟩ : ∃ b, (falseB : List UInt8).isPrefixOf l1 = b := ⟨_, rfl⟩
    have t1 : MCall Tryd.prog glob 40 [.v (.string ⟨#[102, 97, 108, 115, 101]⟩)] (RB (l1, f1)) (.v (.bool p1)) (RB (if p1 = true then takeP falseB (l1, f1) else (l1, f1))) := takeT falseB (l1, f1) p1 hp1
    obtain ⟨p2, hp2⟩ : ∃ b, (trueB : List UInt8).isPrefixOf l1 = b := ⟨_, rfl⟩
    have t2 : MCall Tryd.prog glob 40 [.v (.string ⟨#[116, 114, 117, 101]⟩)] (RB (l1, f1)) (.v (.bool p2)) (RB (if p2 = true then takeP trueB (l1, f1) else (l1, f1))) := takeT trueB (l1, f1) p2 hp2
    obtain ⟨p3, hp3⟩ : ∃ b, ([34] : List UInt8).isPrefixOf l1 = b := ⟨_, rfl⟩
    have t3 : MCall Tryd.prog glob 40 [.v (.string ⟨#[34]⟩)] (RB (l1, f1)) (.v (.bool p3)) (RB (if p3 = true then takeP [34] (l1, f1) else (l1, f1))) := takeT [34] (l1, f1) p3 hp3
    obtain ⟨p4, hp4⟩ : ∃ b, ([91] : List UInt8).isPrefixOf l1 = b := ⟨_, rfl⟩
    have t4 : MCall Tryd.prog glob 40 [.v (.string ⟨#[91]⟩)] (RB (l1, f1)) (.v (.bool p4)) (RB (if p4 = true then takeP [91] (l1, f1) else (l1, f1))) := takeT [91] (l1, f1) p4 hp4
    obtain ⟨p5, hp5⟩ : ∃ b, ([123] : List UInt8).isPrefixOf l1 = b := ⟨_, rfl⟩
    have t5 : MCall Tryd.prog glob 40 [.v (.string ⟨#[123]⟩)] (RB (l1, f1)) (.v (.bool p5)) (RB (if p5 = true then takeP [123] (l1, f1) else (l1, f1))) := takeT [123] (l1, f1) p5 hp5
    rw [hp0, hp1, hp2, hp3, hp4, hp5] at hW
    cases p0 with
    | true =>
      rw [if_pos rfl] at hW t0
      subst hW
      refine G1 F4 (an d8 tt) tt (an b1.go tt) tt ⟨?_⟩
      refine lavc_rounds 4 ?_
      refine G1 F4 (an w1 (an w2 (an w3 (an w4 (an w5 (an w6 tt)))))) tt (an t0.go tt) tt ⟨?_⟩
      refine R1 tt ⟨?_⟩
      exact end1V (view4z _ _) (RB.nr _) rfl
    | false =>
    rw [if_neg (by decide)] at hW t0
    cases p1 with
    | true =>
      rw [if_pos rfl] at hW t1
      subst hW
      refine G1 F4 (an d8 tt) tt (an b1.go tt) tt ⟨?_⟩
      refine lavc_rounds 4 ?_
      refine G1 F4 (an w1 (an w2 (an w3 (an w4 (an w5 (an w6 tt)))))) tt (an t0.go (an t1.go tt)) tt ⟨?_⟩
      refine R1 tt ⟨?_⟩
      exact end1V (view4z _ _) (RB.nr _) rfl
    | false =>
    rw [if_neg (by decide)] at hW t1
    cases p2 with
    | true =>
      rw [if_pos rfl] at hW t2
      subst hW
      refine G1 F4 (an d8 tt) tt (an b1.go tt) tt ⟨?_⟩
      refine lavc_rounds 4 ?_
      refine G1 F4 (an w1 (an w2 (an w3 (an w4 (an w5 (an w6 tt)))))) tt (an t0.go (an t1.go (an t2.go tt))) tt ⟨?_⟩
      refine R1 tt ⟨?_⟩
      exact end1V (view4z _ _) (RB.nr _) rfl
    | false =>
    rw [if_neg (by decide)] at hW t2
    cases p3 with
    | true =>
      rw [if_pos rfl] at hW t3
      have xm := text_m (takeP [34] (l1, f1)) (by have := take_len [34] (l1, f1); have : (takeP [34] (l1, f1)).1.length ≤ l1.length := this; omega)
      subst hW
      refine G1 F4 (an d8 tt) tt (an b1.go tt) tt ⟨?_⟩
      refine lavc_rounds 4 ?_
      repeat (first
        | (with_reducible refine lops_step fun K hK => ?_; simp (disch := first | exact dch | fail) only [go_sem, Nat.reduceAdd, Nat.reduceSub, reduceIte, Nat.reduceEqDiff, Int.reduceToNat, Int.reduceBEq, Int.reduceBNe, w1, w2, w3, w4, w5, w6]; (try (first | (refine And.intro (fun _ => ?_) (fun h => absurd h (by decide))) | (refine And.intro (fun h => absurd h (by decide)) (fun _ => ?_)))); (repeat (with_reducible refine And.intro acl ?_)); (first | (refine hK _ _ ?_) | (refine ⟨_, rfl, hK _ _ ?_⟩) | (refine Or.inl (hK _ _ ?_)) | (refine ⟨_, _, Or.inl (t0.go _ _ rfl), (by first | exact ⟨[], (List.append_nil _).symm⟩ | exact ⟨_, rfl⟩), hK _ _ ?_⟩) | (refine ⟨_, _, Or.inl (t0.go _ _ rfl), hK _ _ ?_⟩) | (refine ⟨_, _, Or.inl (t0.go _ _ rfl).weakQ, hK _ _ ?_⟩) | (refine ⟨_, _, Or.inl (t1.go _ _ rfl), (by first | exact ⟨[], (List.append_nil _).symm⟩ | exact ⟨_, rfl⟩), hK _ _ ?_⟩) | (refine ⟨_, _, Or.inl (t1.go _ _ rfl), hK _ _ ?_⟩) | (refine ⟨_, _, Or.inl (t1.go _ _ rfl).weakQ, hK _ _ ?_⟩) | (refine ⟨_, _, Or.inl (t2.go _ _ rfl), (by first | exact ⟨[], (List.append_nil _).symm⟩ | exact ⟨_, rfl⟩), hK _ _ ?_⟩) | (refine ⟨_, _, Or.inl (t2.go _ _ rfl), hK _ _ ?_⟩) | (refine ⟨_, _, Or.inl (t2.go _ _ rfl).weakQ, hK _ _ ?_⟩) | (refine ⟨_, _, Or.inl (t3.go _ _ rfl), (by first | exact ⟨[], (List.append_nil _).symm⟩ | exact ⟨_, rfl⟩), hK _ _ ?_⟩) | (refine ⟨_, _, Or.inl (t3.go _ _ rfl), hK _ _ ?_⟩) | (refine ⟨_, _, Or.inl (t3.go _ _ rfl).weakQ, hK _ _ ?_⟩) | (refine ⟨_, _, Or.inl (xm.go _ _ rfl), (by first | exact ⟨[], (List.append_nil _).symm⟩ | exact ⟨_, rfl⟩), hK _ _ ?_⟩) | (refine ⟨_, _, Or.inl (xm.go _ _ rfl), hK _ _ ?_⟩) | (refine ⟨_, _, Or.inl (xm.go _ _ rfl).weakQ, hK _ _ ?_⟩)); clear hK K)
        | (with_reducible refine lops_nil ?_)
        | (with_reducible first | refine lavc_reg ?_ | refine lavc_seq ?_ | refine lavc_block ?_ | refine lavc_skip ?_ | refine lavc_exit ?_ | refine lavc_ret ?_ | refine lavcR_round ?_)
        | (refine lavc_cond rfl (fun _ => ?_) (fun hc => absurd hc (by decide)))
        | (refine lavc_cond rfl (fun hc => absurd hc (by decide)) (fun _ => ?_))
        | (simp only [↓reduceIte, Nat.reduceEqDiff, reduceCtorEq]))
      refine R1 tt ⟨?_⟩
      exact end1V (view4z _ _) (RB.nr _) rfl
    | false =>
    rw [if_neg (by decide)] at hW t3
    have hvm := value_m n (d + 1) (by omega) (by omega) (by omega)
    have tl : ∀ p, (takeP p (l1, f1)).1.length ≤ 1000000 := fun p => by
      have := take_len p (l1, f1)
      have : (takeP p (l1, f1)).1.length ≤ l1.length := this
      omega
    cases p4 with
    | true =>
      rw [if_pos rfl] at hW t4
      have xm := list_m (valueP n (d + 1)) d (by omega) (value_len n (d + 1)) (value_fail n (d + 1)) hvm (takeP [91] (l1, f1)) (tl _)
      rw [hW] at xm
      obtain ⟨⟨kx, tx, nx, vx⟩, sx⟩ := W
      simp only at xm ⊢
      have nr := NR.vA (.mk kx tx nx vx)
      unfold vA at xm nr ⊢
      rw [Val.cells] at xm nr ⊢
      refine G1 F4 (an d8 tt) tt (an b1.go tt) tt ⟨?_⟩
      refine lavc_rounds 4 ?_
      repeat (first
        | (with_reducible refine lops_step fun K hK => ?_; simp (disch := first | exact dch | fail) only [go_sem, Nat.reduceAdd, Nat.reduceSub, reduceIte, Nat.reduceEqDiff, Int.reduceToNat, Int.reduceBEq, Int.reduceBNe, w1, w2, w3, w4, w5, w6]; (try (first | (refine And.intro (fun _ => ?_) (fun h => absurd h (by decide))) | (refine And.intro (fun h => absurd h (by decide)) (fun _ => ?_)))); (repeat (with_reducible refine And.intro acl ?_)); (first | (refine hK _ _ ?_) | (refine ⟨_, rfl, hK _ _ ?_⟩) | (refine Or.inl (hK _ _ ?_)) | (refine ⟨_, _, Or.inl (t0.go _ _ rfl), (by first | exact ⟨[], (List.append_nil _).symm⟩ | exact ⟨_, rfl⟩), hK _ _ ?_⟩) | (refine ⟨_, _, Or.inl (t0.go _ _ rfl), hK _ _ ?_⟩) | (refine ⟨_, _, Or.inl (t0.go _ _ rfl).weakQ, hK _ _ ?_⟩) | (refine ⟨_, _, Or.inl (t1.go _ _ rfl), (by first | exact ⟨[], (List.append_nil _).symm⟩ | exact ⟨_, rfl⟩), hK _ _ ?_⟩) | (refine ⟨_, _, Or.inl (t1.go _ _ rfl), hK _ _ ?_⟩) | (refine ⟨_, _, Or.inl (t1.go _ _ rfl).weakQ, hK _ _ ?_⟩) | (refine ⟨_, _, Or.inl (t2.go _ _ rfl), (by first | exact ⟨[], (List.append_nil _).symm⟩ | exact ⟨_, rfl⟩), hK _ _ ?_⟩) | (refine ⟨_, _, Or.inl (t2.go _ _ rfl), hK _ _ ?_⟩) | (refine ⟨_, _, Or.inl (t2.go _ _ rfl).weakQ, hK _ _ ?_⟩) | (refine ⟨_, _, Or.inl (t3.go _ _ rfl), (by first | exact ⟨[], (List.append_nil _).symm⟩ | exact ⟨_, rfl⟩), hK _ _ ?_⟩) | (refine ⟨_, _, Or.inl (t3.go _ _ rfl), hK _ _ ?_⟩) | (refine ⟨_, _, Or.inl (t3.go _ _ rfl).weakQ, hK _ _ ?_⟩) | (refine ⟨_, _, Or.inl (t4.go _ _ rfl), (by first | exact ⟨[], (List.append_nil _).symm⟩ | exact ⟨_, rfl⟩), hK _ _ ?_⟩) | (refine ⟨_, _, Or.inl (t4.go _ _ rfl), hK _ _ ?_⟩) | (refine ⟨_, _, Or.inl (t4.go _ _ rfl).weakQ, hK _ _ ?_⟩) | (refine ⟨_, _, Or.inl (xm.go _ _ rfl), (by first | exact ⟨[], (List.append_nil _).symm⟩ | exact ⟨_, rfl⟩), hK _ _ ?_⟩) | (refine ⟨_, _, Or.inl (xm.go _ _ rfl), hK _ _ ?_⟩) | (refine ⟨_, _, Or.inl (xm.go _ _ rfl).weakQ, hK _ _ ?_⟩)); clear hK K)
        | (with_reducible refine lops_nil ?_)
        | (with_reducible first | refine lavc_reg ?_ | refine lavc_seq ?_ | refine lavc_block ?_ | refine lavc_skip ?_ | refine lavc_exit ?_ | refine lavc_ret ?_ | refine lavcR_round ?_)
        | (refine lavc_cond rfl (fun _ => ?_) (fun hc => absurd hc (by decide)))
        | (refine lavc_cond rfl (fun hc => absurd hc (by decide)) (fun _ => ?_))
        | (simp only [↓reduceIte, Nat.reduceEqDiff, reduceCtorEq]))
      refine R1 tt ⟨?_⟩
      exact end1 nr rfl (RB.nr _) rfl
    | false =>
    rw [if_neg (by decide)] at hW t4
    cases p5 with
    | true =>
      rw [if_pos rfl] at hW t5
      have xm := page_m (valueP n (d + 1)) d (by omega) (value_len n (d + 1)) (value_fail n (d + 1)) hvm (takeP [123] (l1, f1)) (tl _)
      rw [hW] at xm
      obtain ⟨⟨kx, tx, nx, vx⟩, sx⟩ := W
      simp only at xm ⊢
      have nr := NR.vA (.mk kx tx nx vx)
      unfold vA at xm nr ⊢
      rw [Val.cells] at xm nr ⊢
      refine G1 F4 (an d8 tt) tt (an b1.go tt) tt ⟨?_⟩
      refine lavc_rounds 4 ?_
      repeat (first
        | (with_reducible refine lops_step fun K hK => ?_; simp (disch := first | exact dch | fail) only [go_sem, Nat.reduceAdd, Nat.reduceSub, reduceIte, Nat.reduceEqDiff, Int.reduceToNat, Int.reduceBEq, Int.reduceBNe, w1, w2, w3, w4, w5, w6]; (try (first | (refine And.intro (fun _ => ?_) (fun h => absurd h (by decide))) | (refine And.intro (fun h => absurd h (by decide)) (fun _ => ?_)))); (repeat (with_reducible refine And.intro acl ?_)); (first | (refine hK _ _ ?_) | (refine ⟨_, rfl, hK _ _ ?_⟩) | (refine Or.inl (hK _ _ ?_)) | (refine ⟨_, _, Or.inl (t0.go _ _ rfl), (by first | exact ⟨[], (List.append_nil _).symm⟩ | exact ⟨_, rfl⟩), hK _ _ ?_⟩) | (refine ⟨_, _, Or.inl (t0.go _ _ rfl), hK _ _ ?_⟩) | (refine ⟨_, _, Or.inl (t0.go _ _ rfl).weakQ, hK _ _ ?_⟩) | (refine ⟨_, _, Or.inl (t1.go _ _ rfl), (by first | exact ⟨[], (List.append_nil _).symm⟩ | exact ⟨_, rfl⟩), hK _ _ ?_⟩) | (refine ⟨_, _, Or.inl (t1.go _ _ rfl), hK _ _ ?_⟩) | (refine ⟨_, _, Or.inl (t1.go _ _ rfl).weakQ, hK _ _ ?_⟩) | (refine ⟨_, _, Or.inl (t2.go _ _ rfl), (by first | exact ⟨[], (List.append_nil _).symm⟩ | exact ⟨_, rfl⟩), hK _ _ ?_⟩) | (refine ⟨_, _, Or.inl (t2.go _ _ rfl), hK _ _ ?_⟩) | (refine ⟨_, _, Or.inl (t2.go _ _ rfl).weakQ, hK _ _ ?_⟩) | (refine ⟨_, _, Or.inl (t3.go _ _ rfl), (by first | exact ⟨[], (List.append_nil _).symm⟩ | exact ⟨_, rfl⟩), hK _ _ ?_⟩) | (refine ⟨_, _, Or.inl (t3.go _ _ rfl), hK _ _ ?_⟩) | (refine ⟨_, _, Or.inl (t3.go _ _ rfl).weakQ, hK _ _ ?_⟩) | (refine ⟨_, _, Or.inl (t4.go _ _ rfl), (by first | exact ⟨[], (List.append_nil _).symm⟩ | exact ⟨_, rfl⟩), hK _ _ ?_⟩) | (refine ⟨_, _, Or.inl (t4.go _ _ rfl), hK _ _ ?_⟩) | (refine ⟨_, _, Or.inl (t4.go _ _ rfl).weakQ, hK _ _ ?_⟩) | (refine ⟨_, _, Or.inl (t5.go _ _ rfl), (by first | exact ⟨[], (List.append_nil _).symm⟩ | exact ⟨_, rfl⟩), hK _ _ ?_⟩) | (refine ⟨_, _, Or.inl (t5.go _ _ rfl), hK _ _ ?_⟩) | (refine ⟨_, _, Or.inl (t5.go _ _ rfl).weakQ, hK _ _ ?_⟩) | (refine ⟨_, _, Or.inl (xm.go _ _ rfl), (by first | exact ⟨[], (List.append_nil _).symm⟩ | exact ⟨_, rfl⟩), hK _ _ ?_⟩) | (refine ⟨_, _, Or.inl (xm.go _ _ rfl), hK _ _ ?_⟩) | (refine ⟨_, _, Or.inl (xm.go _ _ rfl).weakQ, hK _ _ ?_⟩)); clear hK K)
        | (with_reducible refine lops_nil ?_)
        | (with_reducible first | refine lavc_reg ?_ | refine lavc_seq ?_ | refine lavc_block ?_ | refine lavc_skip ?_ | refine lavc_exit ?_ | refine lavc_ret ?_ | refine lavcR_round ?_)
        | (refine lavc_cond rfl (fun _ => ?_) (fun hc => absurd hc (by decide)))
        | (refine lavc_cond rfl (fun hc => absurd hc (by decide)) (fun _ => ?_))
        | (simp only [↓reduceIte, Nat.reduceEqDiff, reduceCtorEq]))
      refine R1 tt ⟨?_⟩
      exact end1 nr rfl (RB.nr _) rfl
    | false =>
    rw [if_neg (by decide)] at hW t5
    have np := pnum_p l1 (by omega)
    have gm := give_m 2 (l1, f1)
    have nl := nuL_le l1
    obtain ⟨w, hw⟩ : ∃ w, nuL l1 = w := ⟨_, rfl⟩
    rw [hw] at np nl hW
    by_cases hw0 : w = 0
    · rw [if_pos (.inl hw0)] at hW
      subst hw0 hW
      refine G1 F4 (an d8 tt) tt (an b1.go tt) tt ⟨?_⟩
      refine lavc_rounds 4 ?_
      repeat (first
        | (with_reducible refine lops_step fun K hK => ?_; simp (disch := first | exact dch | fail) only [go_sem, Nat.reduceAdd, Nat.reduceSub, reduceIte, Nat.reduceEqDiff, Int.reduceToNat, Int.reduceBEq, Int.reduceBNe, w1, w2, w3, w4, w5, w6]; (try (first | (refine And.intro (fun _ => ?_) (fun h => absurd h (by decide))) | (refine And.intro (fun h => absurd h (by decide)) (fun _ => ?_)))); (repeat (with_reducible refine And.intro acl ?_)); (first | (refine hK _ _ ?_) | (refine ⟨_, rfl, hK _ _ ?_⟩) | (refine Or.inl (hK _ _ ?_)) | (refine ⟨_, _, Or.inl (t0.go _ _ rfl), (by first | exact ⟨[], (List.append_nil _).symm⟩ | exact ⟨_, rfl⟩), hK _ _ ?_⟩) | (refine ⟨_, _, Or.inl (t0.go _ _ rfl), hK _ _ ?_⟩) | (refine ⟨_, _, Or.inl (t0.go _ _ rfl).weakQ, hK _ _ ?_⟩) | (refine ⟨_, _, Or.inl (t1.go _ _ rfl), (by first | exact ⟨[], (List.append_nil _).symm⟩ | exact ⟨_, rfl⟩), hK _ _ ?_⟩) | (refine ⟨_, _, Or.inl (t1.go _ _ rfl), hK _ _ ?_⟩) | (refine ⟨_, _, Or.inl (t1.go _ _ rfl).weakQ, hK _ _ ?_⟩) | (refine ⟨_, _, Or.inl (t2.go _ _ rfl), (by first | exact ⟨[], (List.append_nil _).symm⟩ | exact ⟨_, rfl⟩), hK _ _ ?_⟩) | (refine ⟨_, _, Or.inl (t2.go _ _ rfl), hK _ _ ?_⟩) | (refine ⟨_, _, Or.inl (t2.go _ _ rfl).weakQ, hK _ _ ?_⟩) | (refine ⟨_, _, Or.inl (t3.go _ _ rfl), (by first | exact ⟨[], (List.append_nil _).symm⟩ | exact ⟨_, rfl⟩), hK _ _ ?_⟩) | (refine ⟨_, _, Or.inl (t3.go _ _ rfl), hK _ _ ?_⟩) | (refine ⟨_, _, Or.inl (t3.go _ _ rfl).weakQ, hK _ _ ?_⟩) | (refine ⟨_, _, Or.inl (t4.go _ _ rfl), (by first | exact ⟨[], (List.append_nil _).symm⟩ | exact ⟨_, rfl⟩), hK _ _ ?_⟩) | (refine ⟨_, _, Or.inl (t4.go _ _ rfl), hK _ _ ?_⟩) | (refine ⟨_, _, Or.inl (t4.go _ _ rfl).weakQ, hK _ _ ?_⟩) | (refine ⟨_, _, Or.inl (t5.go _ _ rfl), (by first | exact ⟨[], (List.append_nil _).symm⟩ | exact ⟨_, rfl⟩), hK _ _ ?_⟩) | (refine ⟨_, _, Or.inl (t5.go _ _ rfl), hK _ _ ?_⟩) | (refine ⟨_, _, Or.inl (t5.go _ _ rfl).weakQ, hK _ _ ?_⟩) | (refine ⟨_, _, Or.inl (np.go _), (by first | exact ⟨[], (List.append_nil _).symm⟩ | exact ⟨_, rfl⟩), hK _ _ ?_⟩) | (refine ⟨_, _, Or.inl (np.go _), hK _ _ ?_⟩) | (refine ⟨_, _, Or.inl (np.go _).weakQ, hK _ _ ?_⟩) | (refine ⟨_, _, Or.inl (gm.go _ _ rfl), (by first | exact ⟨[], (List.append_nil _).symm⟩ | exact ⟨_, rfl⟩), hK _ _ ?_⟩) | (refine ⟨_, _, Or.inl (gm.go _ _ rfl), hK _ _ ?_⟩) | (refine ⟨_, _, Or.inl (gm.go _ _ rfl).weakQ, hK _ _ ?_⟩)); clear hK K)
        | (with_reducible refine lops_nil ?_)
        | (with_reducible first | refine lavc_reg ?_ | refine lavc_seq ?_ | refine lavc_block ?_ | refine lavc_skip ?_ | refine lavc_exit ?_ | refine lavc_ret ?_ | refine lavcR_round ?_)
        | (refine lavc_cond rfl (fun _ => ?_) (fun hc => absurd hc (by decide)))
        | (refine lavc_cond rfl (fun hc => absurd hc (by decide)) (fun _ => ?_))
        | (simp only [↓reduceIte, Nat.reduceEqDiff, reduceCtorEq]))
      refine R1 tt ⟨?_⟩
      exact end1V (view4z _ _) (RB.nr _) rfl
    have q0 : ((w : Int) == 0) = false := by rw [beq_eq_false_iff_ne, ne_eq]; omega
    by_cases hw4 : 40 < w
    · rw [if_pos (.inr hw4)] at hW
      subst hW
      have q4 : decide ((w : Int) > 40) = true := by rw [decide_eq_true_eq]; omega
      refine G1 F4 (an d8 tt) tt (an b1.go tt) tt ⟨?_⟩
      refine lavc_rounds 4 ?_
      repeat (first
        | (with_reducible refine lops_step fun K hK => ?_; simp (disch := first | exact dch | fail) only [go_sem, Nat.reduceAdd, Nat.reduceSub, reduceIte, Nat.reduceEqDiff, Int.reduceToNat, Int.reduceBEq, Int.reduceBNe, w1, w2, w3, w4, w5, w6, q0, q4]; (try (first | (refine And.intro (fun _ => ?_) (fun h => absurd h (by decide))) | (refine And.intro (fun h => absurd h (by decide)) (fun _ => ?_)))); (repeat (with_reducible refine And.intro acl ?_)); (first | (refine hK _ _ ?_) | (refine ⟨_, rfl, hK _ _ ?_⟩) | (refine Or.inl (hK _ _ ?_)) | (refine ⟨_, _, Or.inl (t0.go _ _ rfl), (by first | exact ⟨[], (List.append_nil _).symm⟩ | exact ⟨_, rfl⟩), hK _ _ ?_⟩) | (refine ⟨_, _, Or.inl (t0.go _ _ rfl), hK _ _ ?_⟩) | (refine ⟨_, _, Or.inl (t0.go _ _ rfl).weakQ, hK _ _ ?_⟩) | (refine ⟨_, _, Or.inl (t1.go _ _ rfl), (by first | exact ⟨[], (List.append_nil _).symm⟩ | exact ⟨_, rfl⟩), hK _ _ ?_⟩) | (refine ⟨_, _, Or.inl (t1.go _ _ rfl), hK _ _ ?_⟩) | (refine ⟨_, _, Or.inl (t1.go _ _ rfl).weakQ, hK _ _ ?_⟩) | (refine ⟨_, _, Or.inl (t2.go _ _ rfl), (by first | exact ⟨[], (List.append_nil _).symm⟩ | exact ⟨_, rfl⟩), hK _ _ ?_⟩) | (refine ⟨_, _, Or.inl (t2.go _ _ rfl), hK _ _ ?_⟩) | (refine ⟨_, _, Or.inl (t2.go _ _ rfl).weakQ, hK _ _ ?_⟩) | (refine ⟨_, _, Or.inl (t3.go _ _ rfl), (by first | exact ⟨[], (List.append_nil _).symm⟩ | exact ⟨_, rfl⟩), hK _ _ ?_⟩) | (refine ⟨_, _, Or.inl (t3.go _ _ rfl), hK _ _ ?_⟩) | (refine ⟨_, _, Or.inl (t3.go _ _ rfl).weakQ, hK _ _ ?_⟩) | (refine ⟨_, _, Or.inl (t4.go _ _ rfl), (by first | exact ⟨[], (List.append_nil _).symm⟩ | exact ⟨_, rfl⟩), hK _ _ ?_⟩) | (refine ⟨_, _, Or.inl (t4.go _ _ rfl), hK _ _ ?_⟩) | (refine ⟨_, _, Or.inl (t4.go _ _ rfl).weakQ, hK _ _ ?_⟩) | (refine ⟨_, _, Or.inl (t5.go _ _ rfl), (by first | exact ⟨[], (List.append_nil _).symm⟩ | exact ⟨_, rfl⟩), hK _ _ ?_⟩) | (refine ⟨_, _, Or.inl (t5.go _ _ rfl), hK _ _ ?_⟩) | (refine ⟨_, _, Or.inl (t5.go _ _ rfl).weakQ, hK _ _ ?_⟩) | (refine ⟨_, _, Or.inl (np.go _), (by first | exact ⟨[], (List.append_nil _).symm⟩ | exact ⟨_, rfl⟩), hK _ _ ?_⟩) | (refine ⟨_, _, Or.inl (np.go _), hK _ _ ?_⟩) | (refine ⟨_, _, Or.inl (np.go _).weakQ, hK _ _ ?_⟩) | (refine ⟨_, _, Or.inl (gm.go _ _ rfl), (by first | exact ⟨[], (List.append_nil _).symm⟩ | exact ⟨_, rfl⟩), hK _ _ ?_⟩) | (refine ⟨_, _, Or.inl (gm.go _ _ rfl), hK _ _ ?_⟩) | (refine ⟨_, _, Or.inl (gm.go _ _ rfl).weakQ, hK _ _ ?_⟩)); clear hK K)
        | (with_reducible refine lops_nil ?_)
        | (with_reducible first | refine lavc_reg ?_ | refine lavc_seq ?_ | refine lavc_block ?_ | refine lavc_skip ?_ | refine lavc_exit ?_ | refine lavc_ret ?_ | refine lavcR_round ?_)
        | (refine lavc_cond rfl (fun _ => ?_) (fun hc => absurd hc (by decide)))
        | (refine lavc_cond rfl (fun hc => absurd hc (by decide)) (fun _ => ?_))
        | (simp only [↓reduceIte, Nat.reduceEqDiff, reduceCtorEq]))
      refine R1 tt ⟨?_⟩
      exact end1V (view4z _ _) (RB.nr _) rfl
    · rw [if_neg (by omega)] at hW
      subst hW
      have q4 : decide ((w : Int) > 40) = false := by rw [decide_eq_false_iff_not]; omega
      refine G1 F4 (an d8 tt) tt (an b1.go tt) tt ⟨?_⟩
      refine lavc_rounds 4 ?_
      repeat (first
        | (with_reducible refine lops_step fun K hK => ?_; simp (disch := first | exact dch | fail) only [go_sem, Nat.reduceAdd, Nat.reduceSub, reduceIte, Nat.reduceEqDiff, Int.reduceToNat, Int.reduceBEq, Int.reduceBNe, w1, w2, w3, w4, w5, w6, q0, q4]; (try (first | (refine And.intro (fun _ => ?_) (fun h => absurd h (by decide))) | (refine And.intro (fun h => absurd h (by decide)) (fun _ => ?_)))); (repeat (with_reducible refine And.intro acl ?_)); (first | (refine hK _ _ ?_) | (refine ⟨_, rfl, hK _ _ ?_⟩) | (refine Or.inl (hK _ _ ?_)) | (refine ⟨_, _, Or.inl (t0.go _ _ rfl), (by first | exact ⟨[], (List.append_nil _).symm⟩ | exact ⟨_, rfl⟩), hK _ _ ?_⟩) | (refine ⟨_, _, Or.inl (t0.go _ _ rfl), hK _ _ ?_⟩) | (refine ⟨_, _, Or.inl (t0.go _ _ rfl).weakQ, hK _ _ ?_⟩) | (refine ⟨_, _, Or.inl (t1.go _ _ rfl), (by first | exact ⟨[], (List.append_nil _).symm⟩ | exact ⟨_, rfl⟩), hK _ _ ?_⟩) | (refine ⟨_, _, Or.inl (t1.go _ _ rfl), hK _ _ ?_⟩) | (refine ⟨_, _, Or.inl (t1.go _ _ rfl).weakQ, hK _ _ ?_⟩) | (refine ⟨_, _, Or.inl (t2.go _ _ rfl), (by first | exact ⟨[], (List.append_nil _).symm⟩ | exact ⟨_, rfl⟩), hK _ _ ?_⟩) | (refine ⟨_, _, Or.inl (t2.go _ _ rfl), hK _ _ ?_⟩) | (refine ⟨_, _, Or.inl (t2.go _ _ rfl).weakQ, hK _ _ ?_⟩) | (refine ⟨_, _, Or.inl (t3.go _ _ rfl), (by first | exact ⟨[], (List.append_nil _).symm⟩ | exact ⟨_, rfl⟩), hK _ _ ?_⟩) | (refine ⟨_, _, Or.inl (t3.go _ _ rfl), hK _ _ ?_⟩) | (refine ⟨_, _, Or.inl (t3.go _ _ rfl).weakQ, hK _ _ ?_⟩) | (refine ⟨_, _, Or.inl (t4.go _ _ rfl), (by first | exact ⟨[], (List.append_nil _).symm⟩ | exact ⟨_, rfl⟩), hK _ _ ?_⟩) | (refine ⟨_, _, Or.inl (t4.go _ _ rfl), hK _ _ ?_⟩) | (refine ⟨_, _, Or.inl (t4.go _ _ rfl).weakQ, hK _ _ ?_⟩) | (refine ⟨_, _, Or.inl (t5.go _ _ rfl), (by first | exact ⟨[], (List.append_nil _).symm⟩ | exact ⟨_, rfl⟩), hK _ _ ?_⟩) | (refine ⟨_, _, Or.inl (t5.go _ _ rfl), hK _ _ ?_⟩) | (refine ⟨_, _, Or.inl (t5.go _ _ rfl).weakQ, hK _ _ ?_⟩) | (refine ⟨_, _, Or.inl (np.go _), (by first | exact ⟨[], (List.append_nil _).symm⟩ | exact ⟨_, rfl⟩), hK _ _ ?_⟩) | (refine ⟨_, _, Or.inl (np.go _), hK _ _ ?_⟩) | (refine ⟨_, _, Or.inl (np.go _).weakQ, hK _ _ ?_⟩) | (refine ⟨_, _, Or.inl (gm.go _ _ rfl), (by first | exact ⟨[], (List.append_nil _).symm⟩ | exact ⟨_, rfl⟩), hK _ _ ?_⟩) | (refine ⟨_, _, Or.inl (gm.go _ _ rfl), hK _ _ ?_⟩) | (refine ⟨_, _, Or.inl (gm.go _ _ rfl).weakQ, hK _ _ ?_⟩)); clear hK K)
        | (with_reducible refine lops_nil ?_)
        | (with_reducible first | refine lavc_reg ?_ | refine lavc_seq ?_ | refine lavc_block ?_ | refine lavc_skip ?_ | refine lavc_exit ?_ | refine lavc_ret ?_ | refine lavcR_round ?_)
        | (refine lavc_cond rfl (fun _ => ?_) (fun hc => absurd hc (by decide)))
        | (refine lavc_cond rfl (fun hc => absurd hc (by decide)) (fun _ => ?_))
        | (simp only [↓reduceIte, Nat.reduceEqDiff, reduceCtorEq]))
      refine R1 tt ⟨?_⟩
      exact end1V (view4z _ _) (RB.nr _) rfl
end Go.Abs.S
namespace Go.Abs.S
attribute [local go_sem] lguard aopO aop aenv toAV tput aLoad aStore vcells aBin aNilI aUn aAlloc aBox aBuild aBSlice afill aConv isIntT aappZ aCap aArr aMM aMake aSlice bnd3 bnd aFldAddr aFld aIdxAddr aIdx aExt aLen aCopy aEq0 bAV aUb aapp aappQ agh acont List.getD_cons_zero List.getD_cons_succ List.set_cons_zero List.set_cons_succ List.getElem?_cons_zero List.getElem?_cons_succ List.length_cons List.length_nil List.map_cons List.map_nil ints_length if_true if_false Bool.false_eq_true true_and and_true eq_self ne_eq not_false_eq_true not_true_eq_false beq_self_eq_true Nat.zero_add Nat.add_zero Nat.mul_one Nat.zero_mul Int.toNat_natCast List.toList_toArray List.all_cons List.all_nil AV.one Value.oneCell' Bool.and_true Bool.true_and forall_const true_implies false_implies implies_true Option.map_some Option.map_none Option.isSome_some Option.isSome_none imp_self rdP_flat rdP_row splice_one ints_set ints_get List.append_nil List.cons_append List.nil_append List.getElem?_toArray List.drop_zero ints_drop ints_take List.take_of_length_le splice_all ints_one Option.some.injEq Option.getD_some List.length_replicate zArr List.map_replicate rep_ints splice_intsR List.length_set List.length_append List.flatten_replicate_singleton rep_slice rep_string rep_bool rep_iface List.replicate_zero if_pos if_neg List.mapM_cons List.mapM_nil Option.pure_def Option.bind_eq_bind Option.bind_some Bool.true_eq_false Bool.not_false Bool.not_true get_concat set_concat
open Go.Proofs
set_option linter.unusedVariables false
set_option linter.unusedSimpArgs false
set_option maxRecDepth 100000
set_option maxHeartbeats 8000000
theorem NR.pe (v : Val) (e : Int) : NR (.tup [Go.Abs.S.vA v, .v (.int .i64 e)]) := NR.tup (by intro c hc; simp at hc; rcases hc with rfl | rfl; exact NR.vA v; exact NR.v _)
theorem Parse_p (l : List UInt8) (hl : l.length ≤ 1000000) : PCall Tryd.prog glob 15 [.v (.string (bs l))] (.tup [vA (parseP l).1, ivC (parseP l).2]) := by
  refine PCall.of ctx.nr nrs (NR.pe _ _) ?_
  refine lcall15 (by simp) 0 (Nat.le_refl _) ?_
  unfold lc15
  refine I1 tt ⟨?_⟩
  obtain ⟨W, hW⟩ : ∃ W, parseP l = W := ⟨_, rfl⟩
  rw [hW]
  unfold parseP at hW
  simp only at hW
  have vm := value_m 10 1 (by decide) (by decide) (by decide) (l, 0) hl (fun h => absurd rfl h)
  obtain ⟨⟨⟨kx, tx, nx, vx⟩, s3⟩, hx⟩ : ∃ y, valueP 10 1 (l, 0) = y := ⟨_, rfl⟩
  rw [hx] at vm hW
  simp only at vm hW
  have hnr := NR.pe (.mk kx tx nx vx) 0
  have hvc : (Val.mk kx tx nx vx).cells = [ivC kx, stA tx, .vsl nx.length (strs nx) none, .vsl vx.length (cellsL vx) none] := by rw [Val.cells]
  unfold vA at vm hnr
  rw [hvc] at vm hnr
  have b3 := blanks_m s3
  obtain ⟨⟨l4, f4⟩, hs4⟩ : ∃ y, blanksP s3 = y := ⟨_, rfl⟩
  rw [hs4] at b3 hW
  simp only at hW
  have fin : ∀ (H : AHeap) (e : Int), View 0 H (.tup [.agg [ivC 0, stA ⟨#[]⟩, nlA, nlA], ivC e]) (.tup [vA default, ivC e]) := fun H e => view2 (view4z 0 ⟨#[]⟩) (.nr (NR.v _))
  by_cases h4 : l4 = []
  · subst h4
    have q1 : decide (([] : List UInt8) = (⟨#[]⟩ : ByteArray).toList) = true := by rw [eq_nil]; rfl
    have e1 : (if ([] : List UInt8) ≠ [] then giveP 2 ([], f4) else (([], f4) : St)) = ([], f4) := if_neg (fun h => h rfl)
    simp only [e1] at hW
    by_cases hf : f4 = 0
    · subst hf
      rw [if_neg (fun h => h rfl)] at hW
      subst hW
      refine G1 F4 (an q1 tt) tt (an vm.go (an b3.go tt)) tt ⟨?_⟩
      refine R1 tt ⟨?_⟩
      unfold vA
      rw [hvc]
      exact end0 hnr rfl
    · rw [if_pos hf] at hW
      subst hW
      have q2 : ((f4 : Int) != 0) = true := by rw [bne_iff_ne, ne_eq]; omega
      refine G1 F4 (an q1 (an q2 tt)) tt (an vm.go (an b3.go tt)) tt ⟨?_⟩
      refine lavc_lateq [.ptr 1 0 0, .ptr 1 0 0, .ptr 1 0 1, ivC f4] ?_ ?_ <;> simp only [lputs, o1_d, o2_d, o3_d, o4_d, tput, List.set_cons_succ, List.set_cons_zero]
      · (simp only [lfreesAt]; repeat (first | exact trivial | (refine And.intro (by unfold lfreeAt; unfold aopO; simp (disch := first | exact dch | fail) only [go_sem, Nat.reduceAdd, Nat.reduceSub, reduceIte, Nat.reduceEqDiff, Int.reduceToNat, Int.reduceBEq, Int.reduceBNe]; (repeat (with_reducible refine And.intro acl ?_)); first | exact ⟨rfl, fun d h => by cases h; rfl⟩ | exact fun d h => by cases h; rfl | exact Or.inr ⟨rfl, fun d h => by cases h; rfl⟩ | exact Or.inr (fun d h => by cases h; rfl) | exact Or.inl ⟨rfl, fun d h => by cases h; rfl⟩) ?_)))
      · refine G1 F3 tt tt tt tt ⟨?_⟩
        repeat (first
          | ((with_reducible refine lopsF_step ?_ fun K hK => ?_); (case _ => (simp only [lfreesAt]; repeat (first | exact trivial | (refine And.intro (by unfold lfreeAt; unfold aopO; simp (disch := first | exact dch | fail) only [go_sem, Nat.reduceAdd, Nat.reduceSub, reduceIte, Nat.reduceEqDiff, Int.reduceToNat, Int.reduceBEq, Int.reduceBNe]; (repeat (with_reducible refine And.intro acl ?_)); first | exact ⟨rfl, fun d h => by cases h; rfl⟩ | exact fun d h => by cases h; rfl | exact Or.inr ⟨rfl, fun d h => by cases h; rfl⟩ | exact Or.inr (fun d h => by cases h; rfl) | exact Or.inl ⟨rfl, fun d h => by cases h; rfl⟩) ?_)))); with_reducible skip; simp (disch := first | exact dch | fail) only [go_sem, Nat.reduceAdd, Nat.reduceSub, reduceIte, Nat.reduceEqDiff, Int.reduceToNat, Int.reduceBEq, Int.reduceBNe]; (repeat (with_reducible refine And.intro acl ?_)); (first | (refine hK _ _ ?_) | (refine ⟨_, rfl, hK _ _ ?_⟩) | (refine Or.inr (hK _ _ ?_)) | (refine Or.inr ⟨rfl, hK _ _ ?_⟩)); clear hK K)
          | ((with_reducible refine lopsF_nil ?_ ?_); (case _ => (simp only [lfreesAt]; repeat (first | exact trivial | (refine And.intro (by unfold lfreeAt; unfold aopO; simp (disch := first | exact dch | fail) only [go_sem, Nat.reduceAdd, Nat.reduceSub, reduceIte, Nat.reduceEqDiff, Int.reduceToNat, Int.reduceBEq, Int.reduceBNe]; (repeat (with_reducible refine And.intro acl ?_)); first | exact ⟨rfl, fun d h => by cases h; rfl⟩ | exact fun d h => by cases h; rfl | exact Or.inr ⟨rfl, fun d h => by cases h; rfl⟩ | exact Or.inr (fun d h => by cases h; rfl) | exact Or.inl ⟨rfl, fun d h => by cases h; rfl⟩) ?_)))))
          | (with_reducible first | refine lavc_reg ?_ | refine lavc_seq ?_ | refine lavc_block ?_ | refine lavc_skip ?_ | refine lavc_exit ?_ | refine lavc_ret ?_ | refine lavcR_round ?_)
          | (simp only [↓reduceIte, Nat.reduceEqDiff, reduceCtorEq]))
        refine G1 F4 tt tt tt tt ⟨?_⟩
        refine R1 tt ⟨?_⟩
        exact endV (fin _ _)
  · have q1 : decide (l4 = (⟨#[]⟩ : ByteArray).toList) = false := by rw [eq_nil]; exact decide_eq_false h4
    have gm := give_m 2 (l4, f4)
    rw [if_pos h4] at hW
    obtain ⟨⟨l5, f5⟩, hg⟩ : ∃ y, giveP 2 (l4, f4) = y := ⟨_, rfl⟩
    rw [hg] at gm hW
    simp only at hW
    have hf : f5 ≠ 0 := by
      unfold giveP at hg
      by_cases h : f4 = 0
      · rw [if_pos h] at hg
        cases hg
        decide
      · rw [if_neg h] at hg
        cases hg
        exact h
    rw [if_pos hf] at hW
    subst hW
    have q2 : ((f5 : Int) != 0) = true := by rw [bne_iff_ne, ne_eq]; omega
    refine G1 F4 (an q1 (an q2 tt)) tt (an vm.go (an b3.go (an gm.go tt))) tt ⟨?_⟩
    refine lavc_lateq [.ptr 1 0 0, .ptr 1 0 0, .ptr 1 0 1, ivC f5] ?_ ?_ <;> simp only [lputs, o1_d, o2_d, o3_d, o4_d, tput, List.set_cons_succ, List.set_cons_zero]
    · (simp only [lfreesAt]; repeat (first | exact trivial | (refine And.intro (by unfold lfreeAt; unfold aopO; simp (disch := first | exact dch | fail) only [go_sem, Nat.reduceAdd, Nat.reduceSub, reduceIte, Nat.reduceEqDiff, Int.reduceToNat, Int.reduceBEq, Int.reduceBNe]; (repeat (with_reducible refine And.intro acl ?_)); first | exact ⟨rfl, fun d h => by cases h; rfl⟩ | exact fun d h => by cases h; rfl | exact Or.inr ⟨rfl, fun d h => by cases h; rfl⟩ | exact Or.inr (fun d h => by cases h; rfl) | exact Or.inl ⟨rfl, fun d h => by cases h; rfl⟩) ?_)))
    · refine G1 F3 tt tt tt tt ⟨?_⟩
      repeat (first
        | ((with_reducible refine lopsF_step ?_ fun K hK => ?_); (case _ => (simp only [lfreesAt]; repeat (first | exact trivial | (refine And.intro (by unfold lfreeAt; unfold aopO; simp (disch := first | exact dch | fail) only [go_sem, Nat.reduceAdd, Nat.reduceSub, reduceIte, Nat.reduceEqDiff, Int.reduceToNat, Int.reduceBEq, Int.reduceBNe]; (repeat (with_reducible refine And.intro acl ?_)); first | exact ⟨rfl, fun d h => by cases h; rfl⟩ | exact fun d h => by cases h; rfl | exact Or.inr ⟨rfl, fun d h => by cases h; rfl⟩ | exact Or.inr (fun d h => by cases h; rfl) | exact Or.inl ⟨rfl, fun d h => by cases h; rfl⟩) ?_)))); with_reducible skip; simp (disch := first | exact dch | fail) only [go_sem, Nat.reduceAdd, Nat.reduceSub, reduceIte, Nat.reduceEqDiff, Int.reduceToNat, Int.reduceBEq, Int.reduceBNe]; (repeat (with_reducible refine And.intro acl ?_)); (first | (refine hK _ _ ?_) | (refine ⟨_, rfl, hK _ _ ?_⟩) | (refine Or.inr (hK _ _ ?_)) | (refine Or.inr ⟨rfl, hK _ _ ?_⟩)); clear hK K)
        | ((with_reducible refine lopsF_nil ?_ ?_); (case _ => (simp only [lfreesAt]; repeat (first | exact trivial | (refine And.intro (by unfold lfreeAt; unfold aopO; simp (disch := first | exact dch | fail) only [go_sem, Nat.reduceAdd, Nat.reduceSub, reduceIte, Nat.reduceEqDiff, Int.reduceToNat, Int.reduceBEq, Int.reduceBNe]; (repeat (with_reducible refine And.intro acl ?_)); first | exact ⟨rfl, fun d h => by cases h; rfl⟩ | exact fun d h => by cases h; rfl | exact Or.inr ⟨rfl, fun d h => by cases h; rfl⟩ | exact Or.inr (fun d h => by cases h; rfl) | exact Or.inl ⟨rfl, fun d h => by cases h; rfl⟩) ?_)))))
        | (with_reducible first | refine lavc_reg ?_ | refine lavc_seq ?_ | refine lavc_block ?_ | refine lavc_skip ?_ | refine lavc_exit ?_ | refine lavc_ret ?_ | refine lavcR_round ?_)
        | (simp only [↓reduceIte, Nat.reduceEqDiff, reduceCtorEq]))
      refine G1 F4 tt tt tt tt ⟨?_⟩
      refine R1 tt ⟨?_⟩
      exact endV (fin _ _)
end Go.Abs.S
namespace Go.Abs.S
/-- Texts that are read as times. -/
def textsV : Val → Prop
  | .mk _ _ _ vs => ∀ x ∈ vs, match x with
    | .mk _ t _ _ => t.size ≤ 1000000
end Go.Abs.S
namespace Go.Abs.S
open Go.Proofs
set_option linter.unusedVariables false
set_option linter.unusedSimpArgs false
set_option maxRecDepth 100000
set_option maxHeartbeats 4000000
theorem bl_len (x : ByteArray) : (bl x).length = x.size := by
  show x.data.toList.length = _
  rw [Array.length_toList]
  rfl
theorem text_out : ∀ (n : Nat) (acc : List UInt8) (s : St), (textP n acc s).1.length ≤ acc.length + 4 * s.1.length
  | 0, acc, s => Nat.zero_le _
  | n + 1, acc, s => by
    rw [textP]
    split
    · exact Nat.zero_le _
    split
    · exact Nat.zero_le _
    · rename_i hi
      simp only
      obtain ⟨i, hid⟩ : ∃ i, (Lib.idxFunc pq true (bs s.1)).toNat = i := ⟨_, rfl⟩
      rw [hid]
      have hd : (s.1.drop i).length = s.1.length - i := List.length_drop
      have htk : (s.1.take i).length = min i s.1.length := List.length_take
      split
      · refine Nat.le_trans (text_out n _ _) ?_
        simp only [List.length_append, List.length_take, List.length_drop]
        omega
      split
      · simp only [List.length_append, List.length_take]
        omega
      split
      · rename_i h
        refine Nat.le_trans (text_out n _ _) ?_
        have h1 := esc_len ((s.1.drop i).drop 1, s.2)
        have h2 : (bl (escP ((s.1.drop i).drop 1, s.2)).1).length = (escP ((s.1.drop i).drop 1, s.2)).1.size := bl_len _
        have h3 : 1 ≤ (s.1.drop i).length := by
          cases hl : s.1.drop i with
          | nil =>
            rw [hl] at h
            cases h
          | cons _ _ => exact Nat.le_add_left _ _
        simp only [List.length_append, List.length_take, List.length_drop] at h1 h3 ⊢
        omega
      · refine Nat.le_trans (text_out n _ _) ?_
        have := give_len 2 (s.1.drop i, s.2)
        simp only [List.length_append, List.length_take, List.length_drop] at this ⊢
        omega
theorem textR_out (s : St) (h : s.1.length ≤ 250000) : (bs (textR s).1).size ≤ 1000000 := by
  rw [bs_size]
  have := text_out (s.1.length + 2) [] s
  unfold textR
  simp only [List.length_nil] at this
  omega
/-- A value that was read. -/
def okV : Val → Prop
  | .mk k t ns vs => small (.mk k t ns vs) ∧ t.size ≤ 1000000 ∧ textsV (.mk k t ns vs)
theorem okV_none (k : Int) (t : ByteArray) (h : t.size ≤ 1000000) : okV (.mk k t [] []) := by
  refine ⟨?_, h, fun x hx => absurd hx List.not_mem_nil⟩
  rw [small, smallL_iff]
  exact ⟨⟨by omega, by decide, fun _ h => absurd h List.not_mem_nil, by decide⟩, fun _ h => absurd h List.not_mem_nil⟩
theorem okV_default : okV default := okV_none 0 ⟨#[]⟩ (by decide)
theorem okV_bs0 (k : Int) : okV (.mk k (bs []) [] []) := okV_none k _ (by decide)
theorem okV_mk (k : Int) (ns : List ByteArray) (vs : List Val) (h1 : ns.length ≤ 1000) (h2 : vs.length ≤ 1000) (h3 : ∀ s ∈ ns, s.size ≤ 1000000) (h4 : ∀ v ∈ vs, okV v) : okV (.mk k (bs []) ns vs) := by
  refine ⟨?_, by decide, ?_⟩
  · rw [small, smallL_iff]
    refine ⟨⟨by decide, h1, fun s hs => by have := h3 s hs; omega, h2⟩, fun v hv => ?_⟩
    have := h4 v hv
    obtain ⟨k', t', n', v'⟩ := v
    exact this.1
  · intro v hv
    have := h4 v hv
    obtain ⟨k', t', n', v'⟩ := v
    exact this.2.1
theorem name_out (l : List ByteArray) (s : St) (h : s.1.length ≤ 250000) : (nameP l s).1.size ≤ 1000000 := by
  unfold nameP
  simp only
  refine textR_out _ ?_
  have h1 := blanks_len s
  have h2 : ∀ s : St, (if [34].isPrefixOf s.1 = true then takeP [34] s else giveP 2 s).1.length ≤ s.1.length := fun s => sep_len [34] 2 s
  have := h2 (blanksP s)
  omega
theorem parts_out (V : St → Val × St) (kind : Int) (shut : List UInt8) (hz : ∀ s, (V s).2.1.length ≤ s.1.length) (hV : ∀ s : St, s.1.length ≤ 250000 → okV (V s).1) : ∀ (n : Nat) (ns : List ByteArray) (vs : List Val) (s : St), s.1.length ≤ 250000 → ns.length + n ≤ 67 → vs.length + n ≤ 67 → (∀ s ∈ ns, s.size ≤ 1000000) → (∀ v ∈ vs, okV v) → okV (partsP V kind shut n ns vs s).1
  | 0, ns, vs, s, _, _, _, _, _ => okV_default
  | n + 1, ns, vs, s, hs, hn, hv, hns, hvs => by
    rw [partsP]
    split
    · exact okV_default
    · simp only
      have h1 : (if 64 ≤ vs.length then giveP 11 s else s).1.length ≤ s.1.length := by
        split
        · exact give_len _ _
        · exact Nat.le_refl _
      obtain ⟨s1, hs1⟩ : ∃ x, (if 64 ≤ vs.length then giveP 11 s else s) = x := ⟨_, rfl⟩
      rw [hs1] at h1 ⊢
      have h2 : (if kind = 6 then (nameP ns s1).2 else s1).1.length ≤ s1.1.length := by
        split
        · exact name_len _ _
        · exact Nat.le_refl _
      obtain ⟨s2, hs2⟩ : ∃ x, (if kind = 6 then (nameP ns s1).2 else s1) = x := ⟨_, rfl⟩
      rw [hs2] at h2 ⊢
      have hnm := name_out ns s1 (by omega)
      have h3 := hz s2
      have h4 := blanks_len (V s2).2
      have hx := hV s2 (by omega)
      obtain ⟨ns', hns'⟩ : ∃ x, (if kind = 6 then ns ++ [(nameP ns s1).1] else ns) = x := ⟨_, rfl⟩
      have hn1 : ns'.length ≤ ns.length + 1 := by
        rw [← hns']
        split
        · simp
        · omega
      have hn2 : ∀ s ∈ ns', s.size ≤ 1000000 := by
        rw [← hns']
        split
        · intro s hs
          rcases List.mem_append.1 hs with hs | hs
          · exact hns s hs
          · rw [List.mem_singleton.1 hs]
            exact hnm
        · exact hns
      have hv1 : (vs ++ [(V s2).1]).length = vs.length + 1 := by simp
      have hv2 : ∀ v ∈ vs ++ [(V s2).1], okV v := by
        intro v hv
        rcases List.mem_append.1 hv with hv | hv
        · exact hvs v hv
        · rw [List.mem_singleton.1 hv]
          exact hx
      rw [hns']
      split
      · exact okV_mk kind ns' _ (by omega) (by omega) hn2 hv2
      · refine parts_out V kind shut hz hV n _ _ _ ?_ (by omega) (by omega) hn2 hv2
        have := sep_len [44] 2 (blanksP (V s2).2)
        omega
theorem partsR_out (V : St → Val × St) (kind : Int) (shut : List UInt8) (hz : ∀ s, (V s).2.1.length ≤ s.1.length) (hV : ∀ s : St, s.1.length ≤ 250000 → okV (V s).1) (s : St) (h : s.1.length ≤ 250000) : okV (partsR V kind shut s).1 := by
  unfold partsR
  split
  · exact okV_bs0 kind
  · have := blanks_len s
    exact parts_out V kind shut hz hV 67 [] [] _ (by omega) (by decide) (by decide) (fun _ h => absurd h List.not_mem_nil) (fun _ h => absurd h List.not_mem_nil)
theorem value_out : ∀ (n : Nat) (d : Int) (s : St), s.1.length ≤ 250000 → okV (valueP n d s).1
  | 0, d, s, _ => okV_default
  | n + 1, d, s, h => by
    rw [valueP]
    have h0 := blanks_len s
    have h1 : (if 8 < d ∧ (blanksP s).1 ≠ [] then giveP 9 (blanksP s) else blanksP s).1.length ≤ (blanksP s).1.length := by
      split
      · exact give_len _ _
      · exact Nat.le_refl _
    obtain ⟨s2, hs2⟩ : ∃ x, (if 8 < d ∧ (blanksP s).1 ≠ [] then giveP 9 (blanksP s) else blanksP s) = x := ⟨_, rfl⟩
    rw [hs2] at h1 ⊢
    have ht : ∀ p, (takeP p s2).1.length ≤ 250000 := fun p => by
      have := take_len p s2
      omega
    split
    · exact okV_bs0 0
    split
    · exact okV_bs0 1
    split
    · exact okV_bs0 2
    split
    · exact okV_none 4 _ (textR_out _ (ht _))
    split
    · exact partsR_out _ 5 _ (value_len n _) (fun s hs => value_out n _ s hs) _ (ht _)
    split
    · exact partsR_out _ 6 _ (value_len n _) (fun s hs => value_out n _ s hs) _ (ht _)
    split
    · exact okV_default
    · refine okV_none 3 _ ?_
      rw [bs_size, List.length_take]
      omega
theorem ite_ok (P : Prop) [Decidable P] (v : Val) (e : Int) (h : okV v) : okV (if P then ((default : Val), e) else (v, 0)).1 := by
  split
  · exact okV_default
  · exact h
theorem parse_out (l : List UInt8) (h : l.length ≤ 250000) : small (parseP l).1 ∧ textsV (parseP l).1 := by
  have ho : okV (parseP l).1 := by
    unfold parseP
    simp only
    exact ite_ok _ _ _ (value_out 10 1 (l, 0) h)
  obtain ⟨w, hw⟩ : ∃ w, (parseP l).1 = w := ⟨_, rfl⟩
  rw [hw] at ho ⊢
  obtain ⟨k, t, ns, vs⟩ := w
  exact ⟨ho.1, ho.2.2⟩
def impCodW : FuncId → Bool := fun f => f == 26 || f == 27 || f == 29 || f == 30 || f == 31 || f == 37 || f == 39 || f == 40 || f == 41 || f == 42 || f == 48 || f == 54 || f == 55 || f == 75
/-- escutcheon/escutcheonlaw20.awake -/
def lc8 : LCode := .seq (.reg []
  [o1 0 (.assign (.const (.bool false)))]) (.seq (.reg []
  [o1 6 (.call ⟨.value (.func 15), #[.const (.string { data := #[123, 32, 34, 97, 34, 32, 58, 32, 91, 32, 49, 32, 44, 32, 34, 98, 34, 32, 93, 32, 125] })], #[9]⟩),
  o1 5 (.move (.tmp 6)),
  o1 7 (.extract (.tmp 5) 0),
  o1 8 (.extract (.tmp 5) 1),
  o1 1 (.alloc 26),
  o3 (.store 26 (.tmp 1) (.tmp 7)),
  o1 2 (.assign (.tmp 8))]) (.seq (.reg []
  [o1 10 (.load 26 (.tmp 1)),
  o1 11 (.call ⟨.value (.func 13), #[.tmp 10], #[26]⟩),
  o1 9 (.move (.tmp 11)),
  o1 12 (.extract (.tmp 9) 0),
  o1 13 (.extract (.tmp 9) 1),
  o1 3 (.assign (.tmp 12)),
  o1 4 (.assign (.tmp 13))]) (.seq (.reg []
  [o1 14 (.move (.tmp 2)),
  o1 15 (.binOp .eql 34 (.tmp 14) (.const (.int .i64 0)) 34),
  o1 16 (.move (.tmp 15)),
  o2 17 (.move (.tmp 4)) 16 true,
  o2 18 (.binOp .eql 34 (.tmp 17) (.const (.int .i64 0)) 34) 16 true,
  o1 19 (.pick (.tmp 16) (.tmp 18) (.const (.bool false))),
  o1 20 (.move (.tmp 19)),
  o2 21 (.move (.tmp 3)) 20 true,
  o2 22 (.binOp .eql 9 (.tmp 21) (.const (.string { data := #[123, 34, 97, 34, 58, 91, 49, 44, 34, 98, 34, 93, 125] })) 9) 20 true,
  o1 23 (.pick (.tmp 20) (.tmp 22) (.const (.bool false))),
  o1 0 (.assign (.tmp 23))]) (.ret))))
theorem ls8 : Tryd.f8.body.map (strip Tryd.prog impCodW) = some lc8 := by kernel_rfl
theorem lcall8 : LC 8 24 lc8 [.tmp 0] := LC.of Tryd.func8 (by kernel_rfl) ls8 (by kernel_rfl) (by kernel_rfl)
/-- escutcheon/escutcheonlaw20.few -/
def lc9 : LCode := .seq (.reg []
  [o1 2 (.box 26 (.tmp 0)),
  o1 4 (.assign (.const (.bool false)))]) (.seq (.seq (.reg []
  [o1 9 (.move (.tmp 1)),
  o1 10 (.binOp .eql 3 (.tmp 9) (.const (.int .i64 0)) 3),
  o1 11 (.move (.tmp 10)),
  o2 12 (.fieldAddr 26 (.tmp 2) 1) 11 false,
  o2 13 (.load 9 (.tmp 12)) 11 false,
  o2 14 (.call ⟨.builtin .len, #[.tmp 13], #[9]⟩) 11 false,
  o2 15 (.binOp .gtr 3 (.tmp 14) (.const (.int .i64 100)) 3) 11 false,
  o1 16 (.pick (.tmp 11) (.const (.bool true)) (.tmp 15)),
  o1 17 (.move (.tmp 16)),
  o2 18 (.fieldAddr 26 (.tmp 2) 2) 17 false,
  o2 19 (.load 23 (.tmp 18)) 17 false,
  o2 20 (.call ⟨.builtin .len, #[.tmp 19], #[23]⟩) 17 false,
  o2 21 (.binOp .gtr 3 (.tmp 20) (.const (.int .i64 80)) 3) 17 false,
  o1 22 (.pick (.tmp 17) (.const (.bool true)) (.tmp 21)),
  o1 23 (.move (.tmp 22)),
  o2 24 (.fieldAddr 26 (.tmp 2) 3) 23 false,
  o2 25 (.load 24 (.tmp 24)) 23 false,
  o2 26 (.call ⟨.builtin .len, #[.tmp 25], #[24]⟩) 23 false,
  o2 27 (.binOp .gtr 3 (.tmp 26) (.const (.int .i64 80)) 3) 23 false,
  o1 28 (.pick (.tmp 23) (.const (.bool true)) (.tmp 27))]) (.cond (.tmp 28) (.seq (.reg []
  [o1 4 (.assign (.const (.bool false)))]) (.ret)) (.skip))) (.seq (.seq (.reg []
  [o1 29 (.fieldAddr 26 (.tmp 2) 2),
  o1 30 (.load 23 (.tmp 29)),
  o1 31 (.call ⟨.builtin .len, #[.tmp 30], #[23]⟩),
  o1 32 (.move (.const (.int .i64 0)))]) (.block 0 (.loop (.seq (.reg []
  [o1 33 (.binOp .lss 3 (.tmp 32) (.tmp 31) 3)]) (.seq (.cond (.tmp 33) (.skip) (.exit 0)) (.seq (.block 1 (.seq (.reg []
  [o1 34 (.indexAddr 23 (.tmp 30) (.tmp 32)),
  o1 35 (.load 9 (.tmp 34)),
  o1 6 (.assign (.tmp 35))]) (.seq (.reg []
  [o1 36 (.move (.tmp 6)),
  o1 37 (.call ⟨.builtin .len, #[.tmp 36], #[9]⟩),
  o1 38 (.binOp .gtr 3 (.tmp 37) (.const (.int .i64 60)) 3)]) (.cond (.tmp 38) (.seq (.reg []
  [o1 4 (.assign (.const (.bool false)))]) (.ret)) (.skip))))) (.reg []
  [o1 39 (.binOp .add 3 (.tmp 32) (.const (.int .i64 1)) 3),
  o1 32 (.move (.tmp 39))]))))))) (.seq (.seq (.reg []
  [o1 40 (.fieldAddr 26 (.tmp 2) 3),
  o1 41 (.load 24 (.tmp 40)),
  o1 42 (.call ⟨.builtin .len, #[.tmp 41], #[24]⟩),
  o1 43 (.move (.const (.int .i64 0)))]) (.block 2 (.loop (.seq (.reg []
  [o1 44 (.binOp .lss 3 (.tmp 43) (.tmp 42) 3)]) (.seq (.cond (.tmp 44) (.skip) (.exit 2)) (.seq (.block 3 (.seq (.reg []
  [o1 45 (.indexAddr 24 (.tmp 41) (.tmp 43)),
  o1 46 (.load 26 (.tmp 45)),
  o1 8 (.alloc 26),
  o3 (.store 26 (.tmp 8) (.tmp 46))]) (.seq (.reg []
  [o1 47 (.load 26 (.tmp 8)),
  o1 48 (.move (.tmp 1)),
  o1 49 (.binOp .sub 3 (.tmp 48) (.const (.int .i64 1)) 3),
  o1 50 (.call ⟨.value (.func 9), #[.tmp 47, .tmp 49], #[26, 3]⟩),
  o1 51 (.unOp .not 4 (.tmp 50))]) (.cond (.tmp 51) (.seq (.reg []
  [o1 4 (.assign (.const (.bool false)))]) (.ret)) (.skip))))) (.reg []
  [o1 52 (.binOp .add 3 (.tmp 43) (.const (.int .i64 1)) 3),
  o1 43 (.move (.tmp 52))]))))))) (.seq (.reg []
  [o1 4 (.assign (.const (.bool true)))]) (.ret)))))
def ms9_0 : List Nat := [0, 3, 4, 5, 6, 7, 9, 10, 11, 12, 13, 14, 15, 16, 17, 18, 19, 20, 21, 22, 23, 24, 25, 26, 27, 28, 29, 32, 33, 34, 35, 36, 37, 38, 39]
def ms9_1 : List Nat := [0, 2, 3, 4, 5, 6, 7, 8, 9, 10, 11, 12, 13, 14, 15, 16, 17, 18, 19, 20, 21, 22, 23, 24, 25, 26, 27, 28, 29, 30, 31, 32, 33, 34, 35, 36, 37, 38, 39, 40, 43, 44, 45, 46, 47, 48, 49, 50, 51, 52]
theorem ls9 : Tryd.f9.body.map (strip Tryd.prog impCodW) = some lc9 := by kernel_rfl
theorem lcall9 : LC 9 53 lc9 [.tmp 4] := LC.of Tryd.func9 (by kernel_rfl) ls9 (by kernel_rfl) (by kernel_rfl)
end Go.Abs.S
namespace Go.Abs.S
attribute [local go_sem] lguard aopO aop aenv toAV tput aLoad aStore vcells aBin aNilI aUn aAlloc aBox aBuild aBSlice afill aConv isIntT aappZ aCap aArr aMM aMake aSlice bnd3 bnd aFldAddr aFld aIdxAddr aIdx aExt aLen aCopy aEq0 bAV aUb aapp aappQ agh acont List.getD_cons_zero List.getD_cons_succ List.set_cons_zero List.set_cons_succ List.getElem?_cons_zero List.getElem?_cons_succ List.length_cons List.length_nil List.map_cons List.map_nil ints_length if_true if_false Bool.false_eq_true true_and and_true eq_self ne_eq not_false_eq_true not_true_eq_false beq_self_eq_true Nat.zero_add Nat.add_zero Nat.mul_one Nat.zero_mul Int.toNat_natCast List.toList_toArray List.all_cons List.all_nil AV.one Value.oneCell' Bool.and_true Bool.true_and forall_const true_implies false_implies implies_true Option.map_some Option.map_none Option.isSome_some Option.isSome_none imp_self rdP_flat rdP_row splice_one ints_set ints_get List.append_nil List.cons_append List.nil_append List.getElem?_toArray List.drop_zero ints_drop ints_take List.take_of_length_le splice_all ints_one Option.some.injEq Option.getD_some List.length_replicate zArr List.map_replicate rep_ints splice_intsR List.length_set List.length_append List.flatten_replicate_singleton rep_slice rep_string rep_bool rep_iface List.replicate_zero if_pos if_neg List.mapM_cons List.mapM_nil Option.pure_def Option.bind_eq_bind Option.bind_some Bool.true_eq_false Bool.not_false Bool.not_true get_concat set_concat
open Go.Proofs
set_option linter.unusedVariables false
set_option linter.unusedSimpArgs false
set_option maxRecDepth 100000
set_option maxHeartbeats 8000000
theorem NR.st (s : ByteArray) (e : Int) : NR (.tup [.v (.string s), .v (.int .i64 e)]) := NR.tup (by intro c hc; simp at hc; rcases hc with rfl | rfl <;> exact NR.v _)
theorem Print_bad (v : Val) (h : small v) (g : Int) (hg : goodV v 1 = g) (h0 : g ≠ 0) : PCall Tryd.prog glob 13 [vA v] (.tup [stA ⟨#[]⟩, ivC g]) := by
  refine PCall.of ctx.nr (List.forall_mem_cons.2 ⟨NR.vA v, fun _ h => absurd h List.not_mem_nil⟩) (NR.st _ _) ?_
  refine lcall13 (by simp) 0 (Nat.le_refl _) ?_
  have gp := Good_v v h
  rw [hg] at gp
  obtain ⟨k, t, ns, vs⟩ := v
  unfold vA at gp ⊢
  rw [Val.cells] at gp ⊢
  unfold lc13
  refine I1 tt ⟨?_⟩
  have q : ((g : Int) != 0) = true := by rw [bne_iff_ne, ne_eq]; omega
  refine G1 F4 (an q tt) (an gp.go tt) tt tt ⟨?_⟩
  refine R1 tt ⟨?_⟩
  exact end0 (NR.st _ _) rfl
theorem nr_three (B X Y : Blk) (h : ∀ c ∈ B.cells, NR c) : NRH [B, X, Y] 1 2 := fun i k hi h1 h2 => by
  match i, hi with
  | 0, hi =>
    cases hi
    exact h
  | 1, _ => exact absurd rfl h1
  | 2, _ => exact absurd rfl h2
  | i + 3, hi => simp at hi
theorem Print_good (v : Val) (h : small v) (hg : goodV v 1 = 0) (hl : (prV v).length ≤ 1000000000) : PCall Tryd.prog glob 13 [vA v] (.tup [stA (bs (prV v)), ivC 0]) := by
  refine PCall.of ctx.nr (List.forall_mem_cons.2 ⟨NR.vA v, fun _ h => absurd h List.not_mem_nil⟩) (NR.st _ _) ?_
  refine lcall13 (by simp) 0 (Nat.le_refl _) ?_
  have gp := Good_v v h
  rw [hg] at gp
  have nv := v.nr
  have pa := fun (B X Y : Blk) (hB : ∀ c ∈ B.cells, NR c) => print_a v (good_well v 1 hg) h [B, X, Y] 1 2 0 0 [] ⟨by simp, by simp, by decide⟩ (nr_three B X Y hB) (by simpa using hl)
  have sV := strOf_bs (prV v)
  have bl := bz_len (prV v)
  obtain ⟨k, t, ns, vs⟩ := v
  obtain ⟨p, hp⟩ : ∃ p, prV (.mk k t ns vs) = p := ⟨_, rfl⟩
  obtain ⟨c, hc⟩ : ∃ p, cntV (.mk k t ns vs) = p := ⟨_, rfl⟩
  rw [hp] at pa sV bl hl ⊢
  rw [hc] at pa
  unfold vA at gp pa ⊢
  rw [Val.cells] at gp pa nv ⊢
  have pb : ACall Tryd.prog glob false 26 [.agg [ivC k, stA t, .vsl ns.length (strs ns) none, .vsl vs.length (cellsL vs) none], .ptr 1 0 0]
      [Blk.mk [ivC k, stA t, .vsl ns.length (strs ns) none, .vsl vs.length (cellsL vs) none] 0 true 26, ⟨[.bad 1 0, .bsl 2 0 0], 0, true, 59⟩, ⟨ints .u8 [], 0, true, 5⟩] (.tup [])
      [Blk.mk [ivC k, stA t, .vsl ns.length (strs ns) none, .vsl vs.length (cellsL vs) none] 0 true 26, ⟨[.bad 1 0, .bsl 2 (0 + c) (bytesOf (bs p)).length], 0, true, 59⟩, ⟨ints .u8 (bytesOf (bs p)), 0 + c, true, 5⟩] := pa (Blk.mk [ivC k, stA t, .vsl ns.length (strs ns) none, .vsl vs.length (cellsL vs) none] 0 true 26) ⟨[.bad 1 0, .bsl 2 0 0], 0, true, 59⟩ ⟨ints .u8 [], 0, true, 5⟩ nv
  unfold lc13
  refine I1 tt ⟨?_⟩
  refine G1 F1 tt (an gp.go tt) tt tt ⟨?_⟩
  refine lavc_cond rfl (fun hc => absurd hc (by decide)) (fun _ => lavc_skip ?_)
  refine lavc_seq (lavc_reg ?_)
  refine G1 F6 tt tt tt tt ⟨?_⟩
  refine lavc_bld 1 5 rfl rfl ?_
  repeat (first
    | (with_reducible refine lops_step fun K hK => ?_; simp (disch := first | exact dch | fail) only [go_sem, Nat.reduceAdd, Nat.reduceSub, reduceIte, Nat.reduceEqDiff, Int.reduceToNat, Int.reduceBEq, Int.reduceBNe, sV]; (try (first | (refine And.intro (fun _ => ?_) (fun h => absurd h (by decide))) | (refine And.intro (fun h => absurd h (by decide)) (fun _ => ?_)))); (repeat (with_reducible refine And.intro acl ?_)); (first | (refine hK _ _ ?_) | (refine ⟨_, rfl, hK _ _ ?_⟩) | (refine Or.inl (hK _ _ ?_)) | (refine ⟨_, _, Or.inl ((pb)), (by first | exact ⟨[], (List.append_nil _).symm⟩ | exact ⟨_, rfl⟩), hK _ _ ?_⟩) | (refine ⟨_, _, Or.inl ((pb)), hK _ _ ?_⟩) | (refine ⟨_, _, Or.inl ((pb)).weakQ, hK _ _ ?_⟩) | (refine ⟨_, _, Or.inl ((String_a (b := 1) (b1 := 2) (acc := bytesOf (bs p)) rfl rfl rfl (by omega) (bytes_u8 _))), (by first | exact ⟨[], (List.append_nil _).symm⟩ | exact ⟨_, rfl⟩), hK _ _ ?_⟩) | (refine ⟨_, _, Or.inl ((String_a (b := 1) (b1 := 2) (acc := bytesOf (bs p)) rfl rfl rfl (by omega) (bytes_u8 _))), hK _ _ ?_⟩) | (refine ⟨_, _, Or.inl ((String_a (b := 1) (b1 := 2) (acc := bytesOf (bs p)) rfl rfl rfl (by omega) (bytes_u8 _))).weakQ, hK _ _ ?_⟩)); clear hK K)
    | (with_reducible refine lops_nil ?_)
    | (with_reducible first | refine lavc_reg ?_ | refine lavc_seq ?_ | refine lavc_block ?_ | refine lavc_skip ?_ | refine lavc_exit ?_ | refine lavc_ret ?_ | refine lavcR_round ?_)
    | (refine lavc_cond rfl (fun _ => ?_) (fun hc => absurd hc (by decide)))
    | (refine lavc_cond rfl (fun hc => absurd hc (by decide)) (fun _ => ?_))
    | (simp only [↓reduceIte, Nat.reduceEqDiff, reduceCtorEq]))
  refine R1 tt ⟨?_⟩
  exact end0 (NR.st _ _) rfl
/-- The document's example. -/
def exL : List UInt8 := [123, 32, 34, 97, 34, 32, 58, 32, 91, 32, 49, 32, 44, 32, 34, 98, 34, 32, 93, 32, 125]
def exV : Val := .mk 6 (bs []) [bs [97]] [.mk 5 (bs []) [] [.mk 3 (bs [49]) [] [], .mk 4 (bs [98]) [] []]]
theorem ex_parse : parseP exL = (exV, 0) := by kernel_rfl
theorem ex_good : goodV exV 1 = 0 := by kernel_rfl
theorem ex_print : prV exV = [123, 34, 97, 34, 58, 91, 49, 44, 34, 98, 34, 93, 125] := by kernel_rfl
theorem ex_small : small exV := by
  unfold exV
  simp only [small, smallL, small1]
  refine ⟨⟨by decide, by decide, fun s hs => ?_, by decide⟩, ⟨⟨by decide, by decide, fun s hs => absurd hs List.not_mem_nil, by decide⟩, ⟨⟨by decide, by decide, fun s hs => absurd hs List.not_mem_nil, by decide⟩, trivial⟩, ⟨⟨by decide, by decide, fun s hs => absurd hs List.not_mem_nil, by decide⟩, trivial⟩, trivial⟩, trivial⟩
  rw [List.mem_singleton.1 hs]
  decide
theorem awake_p : PCall Tryd.prog glob 8 [] (.v (.bool true)) := by
  refine PCall.of ctx.nr nrs (NR.v _) ?_
  refine lcall8 (by simp) 0 (Nat.le_refl _) ?_
  have pp : PCall Tryd.prog glob 15 [.v (.string ⟨#[123, 32, 34, 97, 34, 32, 58, 32, 91, 32, 49, 32, 44, 32, 34, 98, 34, 32, 93, 32, 125]⟩)] (.tup [vA exV, ivC 0]) := by
    have h := Parse_p exL (by decide)
    rw [ex_parse] at h
    exact h
  have pr : PCall Tryd.prog glob 13 [vA exV] (.tup [.v (.string ⟨#[123, 34, 97, 34, 58, 91, 49, 44, 34, 98, 34, 93, 125]⟩), ivC 0]) := by
    have h := Print_good exV ex_small ex_good (by rw [ex_print]; decide)
    rw [ex_print] at h
    exact h
  obtain ⟨X, hX⟩ : ∃ X, exV = X := ⟨_, rfl⟩
  rw [hX] at pp pr
  obtain ⟨k, t, ns, vs⟩ := X
  unfold vA at pp pr
  rw [Val.cells] at pp pr
  unfold lc8
  refine I1 tt ⟨?_⟩
  refine G1 F4 tt (an pp.go (an pr.go tt)) tt tt ⟨?_⟩
  refine R1 tt ⟨?_⟩
  exact end0 (NR.v _) (by simp)
end Go.Abs.S
namespace Go.Abs.S
open Go.Proofs
set_option maxRecDepth 100000
def impCodS : FuncId → Bool := fun f => f == 26 || f == 27 || f == 29 || f == 30 || f == 31 || f == 37 || f == 39 || f == 40 || f == 41 || f == 42 || f == 48 || f == 54 || f == 55 || f == 75
/-- escutcheon/page.Same -/
def lc11 : LCode := .seq (.reg []
  [o1 2 (.box 26 (.tmp 0)),
  o1 3 (.box 26 (.tmp 1)),
  o1 4 (.assign (.const (.bool false)))]) (.seq (.reg []
  [o1 5 (.fieldAddr 26 (.tmp 2) 0),
  o1 6 (.load 22 (.tmp 5)),
  o1 7 (.fieldAddr 26 (.tmp 3) 0),
  o1 8 (.load 22 (.tmp 7)),
  o1 9 (.binOp .eql 22 (.tmp 6) (.tmp 8) 22),
  o1 10 (.move (.tmp 9)),
  o2 11 (.fieldAddr 26 (.tmp 2) 1) 10 true,
  o2 12 (.load 9 (.tmp 11)) 10 true,
  o2 13 (.fieldAddr 26 (.tmp 3) 1) 10 true,
  o2 14 (.load 9 (.tmp 13)) 10 true,
  o2 15 (.binOp .eql 9 (.tmp 12) (.tmp 14) 9) 10 true,
  o1 16 (.pick (.tmp 10) (.tmp 15) (.const (.bool false))),
  o1 17 (.move (.tmp 16)),
  o2 18 (.fieldAddr 26 (.tmp 2) 2) 17 true,
  o2 19 (.load 23 (.tmp 18)) 17 true,
  o2 20 (.fieldAddr 26 (.tmp 3) 2) 17 true,
  o2 21 (.load 23 (.tmp 20)) 17 true,
  o2 22 (.call ⟨.value (.func 23), #[.tmp 19, .tmp 21], #[23, 23]⟩) 17 true,
  o1 23 (.pick (.tmp 17) (.tmp 22) (.const (.bool false))),
  o1 24 (.move (.tmp 23)),
  o2 25 (.fieldAddr 26 (.tmp 2) 3) 24 true,
  o2 26 (.load 24 (.tmp 25)) 24 true,
  o2 27 (.fieldAddr 26 (.tmp 3) 3) 24 true,
  o2 28 (.load 24 (.tmp 27)) 24 true,
  o2 29 (.call ⟨.value (.func 24), #[.tmp 26, .tmp 28, .func 11], #[24, 24, 31]⟩) 24 true,
  o1 30 (.pick (.tmp 24) (.tmp 29) (.const (.bool false))),
  o1 4 (.assign (.tmp 30))]) (.ret))
theorem ls11 : Tryd.f11.body.map (strip Tryd.prog impCodS) = some lc11 := by kernel_rfl
theorem lcall11 : LC 11 31 lc11 [.tmp 4] := LC.of Tryd.func11 (by kernel_rfl) ls11 (by kernel_rfl) (by kernel_rfl)
/-- slices.Equal[[]string,string] -/
def lc23 : LCode := .seq (.reg []
  [o1 4 (.assign (.const (.bool false)))]) (.seq (.seq (.reg []
  [o1 6 (.move (.tmp 0)),
  o1 7 (.call ⟨.builtin .len, #[.tmp 6], #[23]⟩),
  o1 8 (.move (.tmp 1)),
  o1 9 (.call ⟨.builtin .len, #[.tmp 8], #[23]⟩),
  o1 10 (.binOp .neq 3 (.tmp 7) (.tmp 9) 3)]) (.cond (.tmp 10) (.seq (.reg []
  [o1 4 (.assign (.const (.bool false)))]) (.ret)) (.skip))) (.seq (.seq (.reg []
  [o1 11 (.move (.tmp 0)),
  o1 12 (.call ⟨.builtin .len, #[.tmp 11], #[23]⟩),
  o1 13 (.move (.const (.int .i64 0)))]) (.block 0 (.loop (.seq (.reg []
  [o1 14 (.binOp .lss 3 (.tmp 13) (.tmp 12) 3)]) (.seq (.cond (.tmp 14) (.skip) (.exit 0)) (.seq (.block 1 (.seq (.reg []
  [o1 15 (.move (.tmp 13)),
  o1 5 (.assign (.tmp 15))]) (.seq (.reg [o1 16 (.move (.tmp 0)),
  o1 17 (.move (.tmp 5)),
  o1 18 (.indexAddr 23 (.tmp 16) (.tmp 17)),
  o1 19 (.load 9 (.tmp 18)),
  o1 20 (.move (.tmp 1)),
  o1 21 (.move (.tmp 5)),
  o1 22 (.indexAddr 23 (.tmp 20) (.tmp 21)),
  o1 23 (.load 9 (.tmp 22)),
  o1 24 (.binOp .neq 9 (.tmp 19) (.tmp 23) 9)]
  []) (.cond (.tmp 24) (.seq (.reg []
  [o1 4 (.assign (.const (.bool false)))]) (.ret)) (.skip))))) (.reg []
  [o1 25 (.binOp .add 3 (.tmp 13) (.const (.int .i64 1)) 3),
  o1 13 (.move (.tmp 25))]))))))) (.seq (.reg []
  [o1 4 (.assign (.const (.bool true)))]) (.ret))))
def ms23_0 : List Nat := [2, 3, 4, 5, 6, 7, 8, 9, 10, 11, 13, 14, 15, 16, 17, 18, 19, 20, 21, 22, 23, 24, 25]
theorem ls23 : Tryd.f23.body.map (strip Tryd.prog impCodS) = some lc23 := by kernel_rfl
theorem lcall23 : LC 23 26 lc23 [.tmp 4] := LC.of Tryd.func23 (by kernel_rfl) ls23 (by kernel_rfl) (by kernel_rfl)
/-- slices.EqualFunc[[]escutcheon/page.Value,[]escutcheon/page.Value,escutcheon/page.Value,escutcheon/page.Value] -/
def lc24 : LCode := .seq (.reg []
  [o1 6 (.assign (.const (.bool false)))]) (.seq (.seq (.reg []
  [o1 10 (.move (.tmp 0)),
  o1 11 (.call ⟨.builtin .len, #[.tmp 10], #[24]⟩),
  o1 12 (.move (.tmp 1)),
  o1 13 (.call ⟨.builtin .len, #[.tmp 12], #[24]⟩),
  o1 14 (.binOp .neq 3 (.tmp 11) (.tmp 13) 3)]) (.cond (.tmp 14) (.seq (.reg []
  [o1 6 (.assign (.const (.bool false)))]) (.ret)) (.skip))) (.seq (.seq (.reg []
  [o1 15 (.move (.tmp 0)),
  o1 16 (.call ⟨.builtin .len, #[.tmp 15], #[24]⟩),
  o1 17 (.move (.const (.int .i64 0)))]) (.block 0 (.loop (.seq (.reg []
  [o1 18 (.binOp .lss 3 (.tmp 17) (.tmp 16) 3)]) (.seq (.cond (.tmp 18) (.skip) (.exit 0)) (.seq (.block 1 (.seq (.reg []
  [o1 19 (.move (.tmp 17)),
  o1 20 (.indexAddr 24 (.tmp 15) (.tmp 17)),
  o1 21 (.load 26 (.tmp 20)),
  o1 8 (.alloc 26),
  o1 7 (.assign (.tmp 19)),
  o3 (.store 26 (.tmp 8) (.tmp 21))]) (.seq (.reg []
  [o1 22 (.move (.tmp 1)),
  o1 23 (.move (.tmp 7)),
  o1 24 (.indexAddr 24 (.tmp 22) (.tmp 23)),
  o1 25 (.load 26 (.tmp 24)),
  o1 9 (.alloc 26),
  o3 (.store 26 (.tmp 9) (.tmp 25))]) (.seq (.reg []
  [o1 26 (.move (.tmp 2)),
  o1 27 (.load 26 (.tmp 8)),
  o1 28 (.load 26 (.tmp 9)),
  o1 29 (.call ⟨.value (.tmp 26), #[.tmp 27, .tmp 28], #[26, 26]⟩),
  o1 30 (.unOp .not 4 (.tmp 29))]) (.cond (.tmp 30) (.seq (.reg []
  [o1 6 (.assign (.const (.bool false)))]) (.ret)) (.skip)))))) (.reg []
  [o1 31 (.binOp .add 3 (.tmp 17) (.const (.int .i64 1)) 3),
  o1 17 (.move (.tmp 31))]))))))) (.seq (.reg []
  [o1 6 (.assign (.const (.bool true)))]) (.ret))))
def ms24_0 : List Nat := [0, 3, 4, 5, 6, 7, 8, 9, 10, 11, 12, 13, 14, 17, 18, 19, 20, 21, 22, 23, 24, 25, 26, 27, 28, 29, 30, 31]
theorem ls24 : Tryd.f24.body.map (strip Tryd.prog impCodS) = some lc24 := by kernel_rfl
theorem lcall24 : LC 24 32 lc24 [.tmp 6] := LC.of Tryd.func24 (by kernel_rfl) ls24 (by kernel_rfl) (by kernel_rfl)
end Go.Abs.S
namespace Go.Abs.S
attribute [local go_sem] lguard aopO aop aenv toAV tput aLoad aStore vcells aBin aNilI aUn aAlloc aBox aBuild aBSlice afill aConv isIntT aappZ aCap aArr aMM aMake aSlice bnd3 bnd aFldAddr aFld aIdxAddr aIdx aExt aLen aCopy aEq0 bAV aUb aapp aappQ agh acont List.getD_cons_zero List.getD_cons_succ List.set_cons_zero List.set_cons_succ List.getElem?_cons_zero List.getElem?_cons_succ List.length_cons List.length_nil List.map_cons List.map_nil ints_length if_true if_false Bool.false_eq_true true_and and_true eq_self ne_eq not_false_eq_true not_true_eq_false beq_self_eq_true Nat.zero_add Nat.add_zero Nat.mul_one Nat.zero_mul Int.toNat_natCast List.toList_toArray List.all_cons List.all_nil AV.one Value.oneCell' Bool.and_true Bool.true_and forall_const true_implies false_implies implies_true Option.map_some Option.map_none Option.isSome_some Option.isSome_none imp_self rdP_flat rdP_row splice_one ints_set ints_get List.append_nil List.cons_append List.nil_append List.getElem?_toArray List.drop_zero ints_drop ints_take List.take_of_length_le splice_all ints_one Option.some.injEq Option.getD_some List.length_replicate zArr List.map_replicate rep_ints splice_intsR List.length_set List.length_append List.flatten_replicate_singleton rep_slice rep_string rep_bool rep_iface List.replicate_zero if_pos if_neg List.mapM_cons List.mapM_nil Option.pure_def Option.bind_eq_bind Option.bind_some Bool.true_eq_false Bool.not_false Bool.not_true get_concat set_concat
open Go.Proofs
open Classical
set_option linter.unusedVariables false
set_option linter.unusedSimpArgs false
set_option maxRecDepth 100000
set_option maxHeartbeats 4000000
/-- Whether two are the same. -/
noncomputable def eqV (a b : Val) : Bool := decide (a = b)
noncomputable def eqN (a b : List ByteArray) : Bool := decide (a = b)
noncomputable def eqVs (a b : List Val) : Bool := decide (a = b)
theorem get_c0 {α : Type} (l : List α) (a b : α) : (l ++ [a, b])[l.length]? = some a := by simp
theorem get_c1 {α : Type} (l : List α) (a b : α) : (l ++ [a, b])[l.length + 1]? = some b := by simp
theorem set_c1 {α : Type} (l : List α) (a b c : α) : (l ++ [a, b]).set (l.length + 1) c = l ++ [a, c] := by
  induction l with
  | nil => rfl
  | cons x l ih => simp [ih]
theorem con_con {α : Type} (l : List α) (a b : α) : l ++ [a] ++ [b] = l ++ [a, b] := by simp
theorem len_con {α : Type} (l : List α) (a : α) : (l ++ [a]).length = l.length + 1 := by simp
theorem drop_eq {α : Type} (a b : List α) (hl : a.length = b.length) (d : α) (k : Nat) (h : k < a.length) : (a.drop k = b.drop k) ↔ (a.getD k d = b.getD k d ∧ a.drop (k + 1) = b.drop (k + 1)) := by
  rw [List.drop_eq_getElem_cons h, List.drop_eq_getElem_cons (show k < b.length by omega), List.cons.injEq, List.getD_eq_getElem?_getD, List.getD_eq_getElem?_getD, List.getElem?_eq_getElem h, List.getElem?_eq_getElem (show k < b.length by omega)]
  rfl
theorem equal_p (l m : List ByteArray) (c d : Option Nat) (hl : l.length ≤ 1000) (hm : m.length ≤ 1000) : PCall Tryd.prog glob 23 [.vsl l.length (strs l) c, .vsl m.length (strs m) d] (.v (.bool (eqN l m))) := by
  refine PCall.of ctx.nr (List.forall_mem_cons.2 ⟨NR.vsl (NR.strs _), List.forall_mem_cons.2 ⟨NR.vsl (NR.strs _), fun _ h => absurd h List.not_mem_nil⟩⟩) (NR.v _) ?_
  refine lcall23 (by simp) 0 (Nat.le_refl _) ?_
  unfold lc23
  refine I1 tt ⟨?_⟩
  have hs := strs_length l
  have hs2 := strs_length m
  by_cases hlen : l.length = m.length
  · have q0 : ((l.length : Int) != (m.length : Int)) = false := by rw [hlen]; simp
    refine G1 F4 (an q0 tt) tt tt tt ⟨?_⟩
    refine lavc_loopM ms23_0 (fun n (k : Nat) => n + k = l.length ∧ ((l.drop k = m.drop k) ↔ l = m)) (fun k => [(13, ivC k)]) (fun _ => []) l.length 0 ⟨by omega, by simp⟩ ?_ rfl ?_
    · try unfold ms23_0
      refine A1 tt ⟨?_⟩
      rfl
    rintro n k ⟨hk, hi⟩
    try unfold ms23_0
    refine M1 tt ⟨?_⟩
    refine G1 F1 tt tt tt tt ⟨?_⟩
    refine cnd rfl (fun hc => ?_) (fun hc => ?_)
    · have hkl : k < l.length := by omega
      have hat := strs_at l k hkl
      have hat2 := strs_at m k (by omega)
      have e3 := i64n ((k : Int) + 1) (k + 1) (by omega) (by omega)
      have hd := drop_eq l m hlen ⟨#[]⟩ k hkl
      obtain ⟨y, hy⟩ : ∃ y, l.getD k ⟨#[]⟩ = y := ⟨_, rfl⟩
      obtain ⟨z, hz⟩ : ∃ y, m.getD k ⟨#[]⟩ = y := ⟨_, rfl⟩
      rw [hy] at hat hd
      rw [hz] at hat2 hd
      by_cases hyz : y = z
      · have q : (y.toList == z.toList) = true := by rw [hyz]; simp
        refine G1 F4 (an hat (an hat2 (an q (an e3 tt)))) tt tt tt ⟨?_⟩
        refine ⟨n - 1, k + 1, by omega, ⟨by omega, ?_⟩, ?_, (by first | rfl | trivial)⟩
        · rw [← hi, hd]
          exact ⟨fun h => ⟨hyz, h⟩, fun h => h.2⟩
        · try unfold ms23_0
          exact A0 tt
      · have q : (y.toList == z.toList) = false := by rw [stA_beq]; exact decide_eq_false hyz
        refine G1 F4 (an hat (an hat2 (an q (an e3 tt)))) tt tt tt ⟨?_⟩
        refine R1 tt ⟨?_⟩
        refine end0 (NR.v _) ?_
        have : ¬ l = m := fun h => hyz (hd.1 (hi.2 h)).1
        unfold eqN
        rw [decide_eq_false this]
    · have hk2 : k = l.length := by omega
      refine G1 F4 tt tt tt tt ⟨?_⟩
      refine R1 tt ⟨?_⟩
      refine end0 (NR.v _) ?_
      have : l = m := hi.1 (by rw [hk2, List.drop_length, hlen, List.drop_length])
      unfold eqN
      rw [decide_eq_true this]
  · have q0 : ((l.length : Int) != (m.length : Int)) = true := by rw [bne_iff_ne, ne_eq]; omega
    refine G1 F4 (an q0 tt) tt tt tt ⟨?_⟩
    refine R1 tt ⟨?_⟩
    refine end0 (NR.v _) ?_
    have : ¬ l = m := fun h => hlen (by rw [h])
    unfold eqN
    rw [decide_eq_false this]
theorem bool4 (V a b e g : Bool) (h : V = true ↔ (a = true ∧ b = true ∧ e = true ∧ g = true)) : V = (a && b && e && g) := by
  cases a <;> cases b <;> cases e <;> cases g <;> cases V <;> simp at h ⊢
abbrev SameF : AV := .fn (.func 11) []
theorem SameF.nr : NR SameF := fun σ w u h => by
  cases h with
  | fn us hl ha => exact .fn us hl (fun j hj => absurd hj (Nat.not_lt_zero _))
theorem eqf_p (l m : List Val) (c d : Option Nat) (hl : l.length ≤ 1000) (hm : m.length ≤ 1000) (ih : ∀ v ∈ l, ∀ w ∈ m, PCall Tryd.prog glob 11 [vA v, vA w] (.v (.bool (eqV v w)))) :
    PCall Tryd.prog glob 24 [.vsl l.length (cellsL l) c, .vsl m.length (cellsL m) d, SameF] (.v (.bool (eqVs l m))) := by
  refine PCall.of ctx.nr (List.forall_mem_cons.2 ⟨NR.vsl (cellsL_nr l), List.forall_mem_cons.2 ⟨NR.vsl (cellsL_nr m), List.forall_mem_cons.2 ⟨SameF.nr, fun _ h => absurd h List.not_mem_nil⟩⟩⟩) (NR.v _) ?_
  refine lcall24 (by simp) 0 (Nat.le_refl _) ?_
  unfold lc24
  refine I1 tt ⟨?_⟩
  have hs := cellsL_length l
  have hs2 := cellsL_length m
  by_cases hlen : l.length = m.length
  · have q0 : ((l.length : Int) != (m.length : Int)) = false := by rw [hlen]; simp
    refine G1 F4 (an q0 tt) tt tt tt ⟨?_⟩
    refine lavc_loopM ms24_0 (fun n (x : Nat × AHeap) => n + x.1 = l.length ∧ ((l.drop x.1 = m.drop x.1) ↔ l = m)) (fun x => [(17, ivC x.1)]) (fun x => x.2) l.length (0, _) ⟨by show l.length + 0 = _; omega, by show (l.drop 0 = m.drop 0) ↔ _; simp⟩ ?_ rfl ?_
    · try unfold ms24_0
      refine A1 tt ⟨?_⟩
      rfl
    rintro n ⟨k, gg⟩ ⟨hk, hi⟩
    simp only at hk hi ⊢
    try unfold ms24_0
    refine M1 tt ⟨?_⟩
    refine G1 F1 tt tt tt tt ⟨?_⟩
    refine cnd rfl (fun hc => ?_) (fun hc => ?_)
    · have hkl : k < l.length := by omega
      have hat := cellsL_at l k hkl
      have hat2 := cellsL_at m k (by omega)
      have e3 := i64n ((k : Int) + 1) (k + 1) (by omega) (by omega)
      have hd := drop_eq l m hlen default k hkl
      have hm1 := getD_mem l k hkl
      have hm2 := getD_mem m k (by omega)
      obtain ⟨y, hy⟩ : ∃ y, l.getD k default = y := ⟨_, rfl⟩
      obtain ⟨z, hz⟩ : ∃ y, m.getD k default = y := ⟨_, rfl⟩
      rw [hy] at hat hd hm1
      rw [hz] at hat2 hd hm2
      have sp := ih y hm1 z hm2
      obtain ⟨w, hw⟩ : ∃ w, eqV y z = w := ⟨_, rfl⟩
      have hw2 : w = true ↔ y = z := by rw [← hw]; unfold eqV; exact decide_eq_true_iff
      rw [hw] at sp
      obtain ⟨k1, t1, n1, v1⟩ := y
      obtain ⟨k2, t2, n2, v2⟩ := z
      unfold vA at sp
      rw [Val.cells] at hat hat2
      rw [Val.cells, Val.cells] at sp
      cases w with
      | true =>
        repeat (first
          | (with_reducible refine lops_step fun K hK => ?_; simp (disch := first | exact dch | fail) only [go_sem, Nat.reduceAdd, Nat.reduceSub, reduceIte, Nat.reduceEqDiff, Int.reduceToNat, Int.reduceBEq, Int.reduceBNe, hat, hat2, hs, hs2, e3, get_concat, set_concat, con_con, get_c0, get_c1, set_c1, len_con]; (try (first | (refine And.intro (fun _ => ?_) (fun h => absurd h (by decide))) | (refine And.intro (fun h => absurd h (by decide)) (fun _ => ?_)))); (repeat (with_reducible refine And.intro acl ?_)); (first | (refine hK _ _ ?_) | (refine ⟨_, rfl, hK _ _ ?_⟩) | (refine Or.inl (hK _ _ ?_)) | (refine ⟨_, _, Or.inl (sp.go _), (by first | exact ⟨[], (List.append_nil _).symm⟩ | exact ⟨_, rfl⟩), hK _ _ ?_⟩) | (refine ⟨_, _, Or.inl (sp.go _), hK _ _ ?_⟩) | (refine ⟨_, _, Or.inl (sp.go _).weakQ, hK _ _ ?_⟩)); clear hK K)
          | (with_reducible refine lops_nil ?_)
          | (with_reducible first | refine lavc_reg ?_ | refine lavc_seq ?_ | refine lavc_block ?_ | refine lavc_skip ?_ | refine lavc_exit ?_ | refine lavc_ret ?_ | refine lavcR_round ?_)
          | (refine lavc_cond rfl (fun _ => ?_) (fun hc => absurd hc (by decide)))
          | (refine lavc_cond rfl (fun hc => absurd hc (by decide)) (fun _ => ?_))
          | (simp only [↓reduceIte, Nat.reduceEqDiff, reduceCtorEq]))
        refine ⟨n - 1, (k + 1, _), by omega, ⟨by show n - 1 + (k + 1) = l.length; omega, ?_⟩, ?_, rfl⟩
        · show (l.drop (k + 1) = m.drop (k + 1)) ↔ _
          rw [← hi, hd]
          exact ⟨fun h => ⟨hw2.1 rfl, h⟩, fun h => h.2⟩
        · try unfold ms24_0
          exact A0 tt
      | false =>
        repeat (first
          | (with_reducible refine lops_step fun K hK => ?_; simp (disch := first | exact dch | fail) only [go_sem, Nat.reduceAdd, Nat.reduceSub, reduceIte, Nat.reduceEqDiff, Int.reduceToNat, Int.reduceBEq, Int.reduceBNe, hat, hat2, hs, hs2, e3, get_concat, set_concat, con_con, get_c0, get_c1, set_c1, len_con]; (try (first | (refine And.intro (fun _ => ?_) (fun h => absurd h (by decide))) | (refine And.intro (fun h => absurd h (by decide)) (fun _ => ?_)))); (repeat (with_reducible refine And.intro acl ?_)); (first | (refine hK _ _ ?_) | (refine ⟨_, rfl, hK _ _ ?_⟩) | (refine Or.inl (hK _ _ ?_)) | (refine ⟨_, _, Or.inl (sp.go _), (by first | exact ⟨[], (List.append_nil _).symm⟩ | exact ⟨_, rfl⟩), hK _ _ ?_⟩) | (refine ⟨_, _, Or.inl (sp.go _), hK _ _ ?_⟩) | (refine ⟨_, _, Or.inl (sp.go _).weakQ, hK _ _ ?_⟩)); clear hK K)
          | (with_reducible refine lops_nil ?_)
          | (with_reducible first | refine lavc_reg ?_ | refine lavc_seq ?_ | refine lavc_block ?_ | refine lavc_skip ?_ | refine lavc_exit ?_ | refine lavc_ret ?_ | refine lavcR_round ?_)
          | (refine lavc_cond rfl (fun _ => ?_) (fun hc => absurd hc (by decide)))
          | (refine lavc_cond rfl (fun hc => absurd hc (by decide)) (fun _ => ?_))
          | (simp only [↓reduceIte, Nat.reduceEqDiff, reduceCtorEq]))
        refine R1 tt ⟨?_⟩
        refine end0 (NR.v _) ?_
        have : ¬ l = m := fun h => by
          have := hw2.2 (hd.1 (hi.2 h)).1
          cases this
        unfold eqVs
        rw [decide_eq_false this]
    · have hk2 : k = l.length := by omega
      refine G1 F4 tt tt tt tt ⟨?_⟩
      refine R1 tt ⟨?_⟩
      refine end0 (NR.v _) ?_
      have : l = m := hi.1 (by rw [hk2, List.drop_length, hlen, List.drop_length])
      unfold eqVs
      rw [decide_eq_true this]
  · have q0 : ((l.length : Int) != (m.length : Int)) = true := by rw [bne_iff_ne, ne_eq]; omega
    refine G1 F4 (an q0 tt) tt tt tt ⟨?_⟩
    refine R1 tt ⟨?_⟩
    refine end0 (NR.v _) ?_
    have : ¬ l = m := fun h => hlen (by rw [h])
    unfold eqVs
    rw [decide_eq_false this]
theorem same_v : ∀ a : Val, small a → ∀ b : Val, small b → PCall Tryd.prog glob 11 [vA a, vA b] (.v (.bool (eqV a b))) := Val.ind fun k t ns vs ih hs b hsb => by
  obtain ⟨k2, t2, n2, v2⟩ := b
  obtain ⟨h1, hall⟩ := hs.at
  obtain ⟨h2, hall2⟩ := hsb.at
  obtain ⟨_, hn, _, hv⟩ := h1
  obtain ⟨_, hn2, _, hv2⟩ := h2
  have ep := fun c d => equal_p ns n2 c d hn hn2
  have fp := fun c d => eqf_p vs v2 c d hv hv2 (fun v hv w hw => ih v hv (hall v hv) w (hall2 w hw))
  refine PCall.of ctx.nr (List.forall_mem_cons.2 ⟨NR.vA _, List.forall_mem_cons.2 ⟨NR.vA _, fun _ h => absurd h List.not_mem_nil⟩⟩) (NR.v _) ?_
  refine lcall11 (by simp) 0 (Nat.le_refl _) ?_
  obtain ⟨V, hV⟩ : ∃ V, eqV (.mk k t ns vs) (.mk k2 t2 n2 v2) = V := ⟨_, rfl⟩
  have hV2 : V = true ↔ (k = k2 ∧ t = t2 ∧ ns = n2 ∧ vs = v2) := by
    rw [← hV]
    unfold eqV
    rw [decide_eq_true_iff, Val.mk.injEq]
  rw [hV]
  obtain ⟨e, he⟩ : ∃ e, eqN ns n2 = e := ⟨_, rfl⟩
  obtain ⟨g, hg⟩ : ∃ e, eqVs vs v2 = e := ⟨_, rfl⟩
  have he2 : e = true ↔ ns = n2 := by rw [← he]; unfold eqN; exact decide_eq_true_iff
  have hg2 : g = true ↔ vs = v2 := by rw [← hg]; unfold eqVs; exact decide_eq_true_iff
  rw [he] at ep
  rw [hg] at fp
  obtain ⟨a, ha⟩ : ∃ e, (k == k2) = e := ⟨_, rfl⟩
  obtain ⟨b, hb⟩ : ∃ e, (t.toList == t2.toList) = e := ⟨_, rfl⟩
  have ha2 : a = true ↔ k = k2 := by rw [← ha]; exact beq_iff_eq
  have hb2 : b = true ↔ t = t2 := by rw [← hb, stA_beq]; exact decide_eq_true_iff
  rw [← ha2, ← hb2, ← he2, ← hg2] at hV2
  have hVe := bool4 V a b e g hV2
  rw [hVe]
  unfold vA
  rw [Val.cells, Val.cells]
  unfold lc11
  refine I1 tt ⟨?_⟩
  cases a <;> cases b <;> cases e <;> cases g
  all_goals
    refine G1 F4 (an ha (an hb tt)) tt (an (fun u v => (ep u v).go) (an (fun u v => (fp u v).go) tt)) tt ⟨?_⟩
    refine R1 tt ⟨?_⟩
    exact end0 (NR.v _) rfl
end Go.Abs.S
