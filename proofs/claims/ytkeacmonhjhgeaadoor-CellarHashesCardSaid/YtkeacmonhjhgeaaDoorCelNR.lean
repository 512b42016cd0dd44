/- cellar: its blocks, plainly. cellar: the hash with one lane. cellar: two lanes. cellar: Hash with one lane, in the program. cellar: Hash with two lanes, in the program. -/
import Derived.Test.YtkeacmonhjhgeaaDoorCelDJ
namespace Go.Abs.S
attribute [local go_sem] lguard aopO aop nxL aenv toAV tput aLoad aStore vcells aBin aNilI aUn aAlloc aBox aBuild aBSlice afill aConv isIntT aappZ aCap aArr aMM aMake aSlice bnd3 bnd aFldAddr aFld aIdxAddr aIdx aExt aLen aCopy aEq0 bAV aUb aapp aappQ agh acont List.getD_cons_zero List.getD_cons_succ List.set_cons_zero List.set_cons_succ List.getElem?_cons_zero List.getElem?_cons_succ List.length_cons List.length_nil List.map_cons List.map_nil ints_length if_true if_false Bool.false_eq_true true_and and_true eq_self ne_eq not_false_eq_true not_true_eq_false beq_self_eq_true Nat.zero_add Nat.add_zero Nat.mul_one Nat.zero_mul Int.toNat_natCast List.toList_toArray List.all_cons List.all_nil AV.one Value.oneCell' Bool.and_true Bool.true_and forall_const true_implies false_implies implies_true Option.map_some Option.map_none Option.isSome_some Option.isSome_none imp_self rdP_flat rdP_row splice_one ints_set ints_get List.append_nil List.cons_append List.nil_append List.getElem?_toArray List.drop_zero ints_drop ints_take List.take_of_length_le splice_all ints_one Option.some.injEq Option.getD_some List.length_replicate zArr List.map_replicate rep_ints splice_intsR List.length_set List.length_append List.flatten_replicate_singleton rep_slice rep_string rep_bool rep_iface List.replicate_zero if_pos if_neg List.mapM_cons List.mapM_nil Option.pure_def Option.bind_eq_bind Option.bind_some Bool.true_eq_false Bool.not_false Bool.not_true get_concat set_concat
open Go.Proofs
open Go.Abs.B
set_option linter.unusedVariables false
set_option linter.unusedSimpArgs false
set_option maxRecDepth 100000
set_option maxHeartbeats 4000000
abbrev nilA : AV := .v (.slice none 0 0)
/-- A lane's cells: its blocks, then nothing. -/
def lc (Zs : List (List Int)) (M : Nat) : List AV := Zs.map blkC ++ List.replicate (M - Zs.length) nilA
theorem lc_len (Zs : List (List Int)) (M : Nat) (h : Zs.length ≤ M) : (lc Zs M).length = M := by simp [lc]; omega
theorem lc_at (Zs : List (List Int)) (M j : Nat) (h : j < Zs.length) : (lc Zs M).getD j .any = blkC (Zs.getD j []) := by
  unfold lc
  simp only [List.getD_eq_getElem?_getD]
  rw [List.getElem?_append_left (by simpa using h)]
  simp [h]
theorem lc_add (Zs : List (List Int)) (M : Nat) (S : List Int) (h : Zs.length < M) : (lc Zs M).set Zs.length (blkC S) = lc (Zs ++ [S]) M := by
  obtain ⟨k, hk⟩ : ∃ k, M - Zs.length = k + 1 := ⟨M - Zs.length - 1, by omega⟩
  have hk2 : M - (Zs ++ [S]).length = k := by simp; omega
  unfold lc
  rw [hk, hk2, List.set_append_right _ _ (by simp), List.length_map, Nat.sub_self, List.replicate_succ, List.set_cons_zero]
  simp
theorem lc_set (Zs : List (List Int)) (M i : Nat) (S : List Int) (h : i < Zs.length) : (lc Zs M).set i (blkC S) = lc (Zs.set i S) M := by
  unfold lc
  rw [List.set_append_left _ _ (by simpa using h), List.length_set, List.map_set]
def G64 (Zs : List (List Int)) : Prop := ∀ Z ∈ Zs, Z.length = 64 ∧ B8 Z
theorem G64.at {Zs : List (List Int)} (h : G64 Zs) {j : Nat} (hj : j < Zs.length) : (Zs.getD j []).length = 64 ∧ B8 (Zs.getD j []) := by
  rw [List.getD_eq_getElem?_getD, List.getElem?_eq_getElem hj]
  exact h _ (List.getElem_mem hj)
theorem sumC_b8 (rs : List (List Int)) : B8 (sumC rs) := B8.bytesP _ _
theorem G64.add {Zs : List (List Int)} (h : G64 Zs) (rs : List (List Int)) : G64 (Zs ++ [sumC rs]) := fun Z hZ => by
  rcases List.mem_append.1 hZ with h' | h'
  · exact h Z h'
  · rw [List.mem_singleton] at h'
    subst h'
    exact ⟨sumC_length _, sumC_b8 _⟩
theorem G64.set {Zs : List (List Int)} (h : G64 Zs) (i : Nat) (rs : List (List Int)) : G64 (Zs.set i (sumC rs)) := fun Z hZ => by
  rcases List.mem_or_eq_of_mem_set hZ with h' | h'
  · exact h Z h'
  · subst h'
    exact ⟨sumC_length _, sumC_b8 _⟩
/-- The number that a block tells, as a natural one. -/
def dn (Z : List Int) : Nat := (drawP Z).toNat
theorem drawP_in (Z : List Int) : drawP Z = (dn Z : Int) ∧ dn Z ≤ 9223372036854775807 := by
  have h : ∀ x : Int, 0 ≤ bits .andNot .i64 x (-9223372036854775808) ∧ bits .andNot .i64 x (-9223372036854775808) ≤ 9223372036854775807 := by
    intro x
    have hle : (BitVec.ofInt 64 x &&& ~~~BitVec.ofInt 64 (-9223372036854775808)).toNat ≤ 9223372036854775807 := by
      rw [BitVec.toNat_and]
      exact Nat.le_trans Nat.and_le_right (by decide)
    have e : bits .andNot .i64 x (-9223372036854775808) = IntKind.i64.wrap ((BitVec.ofInt 64 x &&& ~~~BitVec.ofInt 64 (-9223372036854775808)).toNat : Int) := rfl
    rw [e, i64z _ (by omega)]
    omega
  unfold dn drawP
  have := h (Go.Proofs.YtkeacmonhjhgeaaDoor.Back.foldD (Go.Proofs.YtkeacmonhjhgeaaDoor.Back.upto (Go.Proofs.YtkeacmonhjhgeaaDoor.Back.back (Z.take 8) 8) 8))
  omega
/-- One block more, in the first pass. -/
def cgrow (Zs : List (List Int)) : List (List Int) := Zs ++ [sumC [Zs.getD (Zs.length - 1) [], Zs.getD (dn (Zs.getD (Zs.length - 1) []) / 256 % (Zs.length - 1)) []]]
def cgrows : Nat → List (List Int) → List (List Int)
  | 0, Zs => Zs
  | k + 1, Zs => cgrow (cgrows k Zs)
theorem cgrow_len (Zs : List (List Int)) : (cgrow Zs).length = Zs.length + 1 := by simp [cgrow]
theorem cgrows_len : ∀ (k : Nat) (Zs : List (List Int)), (cgrows k Zs).length = Zs.length + k
  | 0, Zs => rfl
  | k + 1, Zs => by simp only [cgrows, cgrow_len, cgrows_len k Zs]; omega
theorem cgrows_g : ∀ (k : Nat) {Zs : List (List Int)}, G64 Zs → G64 (cgrows k Zs)
  | 0, Zs, h => h
  | k + 1, Zs, h => (cgrows_g k h).add _
/-- A lane's blocks at the beginning. -/
def start (F : List Int) (l : Int) : List (List Int) := [fst2 F l 0, fst2 F l 1]
theorem start_g (F : List Int) (l : Int) : G64 (start F l) := fun Z hZ => by
  simp only [start, List.mem_cons, List.not_mem_nil, or_false] at hZ
  rcases hZ with rfl | rfl <;> exact ⟨sumC_length _, sumC_b8 _⟩
theorem start_lc (F : List Int) (l : Int) (M : Nat) : lane2 F l M = lc (start F l) M := rfl
/-- Two lanes; one that is turned at a place, in a later pass. -/
def pick2 (Z : List (List Int) × List (List Int)) (k : Nat) : List (List Int) := if k = 0 then Z.1 else Z.2
def put2 (Z : List (List Int) × List (List Int)) (k : Nat) (x : List (List Int)) : List (List Int) × List (List Int) := if k = 0 then (x, Z.2) else (Z.1, x)
/-- A block anew (L lanes of M blocks). -/
def anew (L M : Nat) (Z : List (List Int) × List (List Int)) (l i : Nat) : List Int :=
  sumC [(pick2 Z l).getD ((i + M - 1) % M) [], (pick2 Z (dn ((pick2 Z l).getD ((i + M - 1) % M) []) % L)).getD (dn ((pick2 Z l).getD ((i + M - 1) % M) []) / 256 % M) [], (pick2 Z l).getD i []]
def turn (L M : Nat) (Z : List (List Int) × List (List Int)) (l i : Nat) : List (List Int) × List (List Int) := put2 Z l ((pick2 Z l).set i (anew L M Z l i))
def turns (L M l : Nat) : Nat → List (List Int) × List (List Int) → List (List Int) × List (List Int)
  | 0, Z => Z
  | k + 1, Z => turn L M (turns L M l k Z) l k
open Go.Proofs
open Go.Abs.B
set_option linter.unusedVariables false
set_option linter.unusedSimpArgs false
set_option maxRecDepth 100000
set_option maxHeartbeats 8000000
def firstC (pw salt : List Int) (M Ps L n : Nat) : List Int := sumC [five M Ps L n 1, pw, salt]
/-- One lane, behind so many passes. -/
def stage1 (F : List Int) (M : Nat) : Nat → List (List Int)
  | 0 => start F 0
  | 1 => cgrows (M - 2) (start F 0)
  | p + 2 => (turns 1 M 0 M (stage1 F M (p + 1), [])).1
theorem turns_len (L M l : Nat) : ∀ (k : Nat) (Z : List (List Int) × List (List Int)), (turns L M l k Z).1.length = Z.1.length ∧ (turns L M l k Z).2.length = Z.2.length
  | 0, Z => ⟨rfl, rfl⟩
  | k + 1, Z => by
    have ih := turns_len L M l k Z
    simp only [turns, turn, put2, pick2]
    split <;> simp [ih]
theorem turns_g (L M l : Nat) : ∀ (k : Nat) (Z : List (List Int) × List (List Int)), G64 Z.1 → G64 Z.2 → G64 (turns L M l k Z).1 ∧ G64 (turns L M l k Z).2
  | 0, Z, h1, h2 => ⟨h1, h2⟩
  | k + 1, Z, h1, h2 => by
    have ih := turns_g L M l k Z h1 h2
    simp only [turns, turn, put2, pick2]
    split
    · exact ⟨ih.1.set _ _, ih.2⟩
    · exact ⟨ih.1, ih.2.set _ _⟩
theorem G64.nil : G64 [] := fun _ h => by cases h
theorem stage1_ok (F : List Int) (M : Nat) (hM : 2 ≤ M) : ∀ p, G64 (stage1 F M p) ∧ (stage1 F M (p + 1)).length = M
  | 0 => ⟨start_g F 0, by show (cgrows (M - 2) (start F 0)).length = M; rw [cgrows_len]; show 2 + (M - 2) = M; omega⟩
  | 1 => ⟨cgrows_g _ (start_g F 0), by show (turns 1 M 0 M (stage1 F M 1, [])).1.length = M; rw [(turns_len 1 M 0 M _).1]; exact (stage1_ok F M hM 0).2⟩
  | p + 2 => by
    have h1 := stage1_ok F M hM (p + 1)
    refine ⟨(turns_g 1 M 0 M (stage1 F M (p + 1), []) h1.1 G64.nil).1, ?_⟩
    show (turns 1 M 0 M (stage1 F M (p + 2), [])).1.length = M
    rw [(turns_len 1 M 0 M _).1]
    exact h1.2
def hash1 (pw salt : List Int) (M Ps n : Nat) : List Int := sumP n [] (packP [(stage1 (firstC pw salt M Ps 1 n) M Ps).getD (M - 1) []])
/-- The memory while one lane is worked at. -/
def mem1 (M Ps : Nat) (R : Int) (Zs : List (List Int)) (gg : AHeap) : AHeap :=
  Blk.mk [iv M, iv Ps, iv 1, iv R] 0 true 25 :: celB M Ps 1 R (.sl 3 0 0 1 1 1 false) 0 :: Blk.mk (lc Zs M) 0 true 22 :: Blk.mk [.sl 2 0 0 M M 1 true] 0 true 51 :: gg
theorem step_first (M Ps : Nat) (R : Int) (Zs : List (List Int)) (gg : AHeap) (hM : 4 ≤ M ∧ M ≤ 64) (hg : G64 Zs) (h2 : 2 ≤ Zs.length) (hi : Zs.length < M) :
    ACall Tryd.prog glob false 15 [.ptr 1 0 0, iv 0, iv 0, iv Zs.length] (mem1 M Ps R Zs gg) (.tup []) (mem1 M Ps R (cgrow Zs) gg) := by
  have hlt : Zs.length - 1 < Zs.length := by omega
  have hA := hg.at hlt
  obtain ⟨d1, d2⟩ := drawP_in (Zs.getD (Zs.length - 1) [])
  have hidx : dn (Zs.getD (Zs.length - 1) []) / 256 % (Zs.length - 1) < Zs.length := by have := Nat.mod_lt (dn (Zs.getD (Zs.length - 1) []) / 256) (show 0 < Zs.length - 1 by omega); omega
  have hB := hg.at hidx
  have h := step0_a (H := mem1 M Ps R Zs gg) (bc := 1) (vc := 0) (bL := 3) (vL := 0) (Lc := 1) (bl := 2) (vl := 0) (l := 0) (i := Zs.length) (idx := dn (Zs.getD (Zs.length - 1) []) / 256 % (Zs.length - 1)) (xL := false) (Ps := Ps) (R := R) (L := 1) (Mn := M)
    (LS := [.sl 2 0 0 M M 1 true]) (cs := lc Zs M) (q := dn (Zs.getD (Zs.length - 1) [])) rfl rfl rfl (by omega) (by omega) rfl rfl (lc_len _ _ (by omega)) (by omega) ⟨h2, hi⟩ (lc_at _ _ _ hlt) hA.1 hA.2 d1 d2 rfl (lc_at _ _ _ hidx) hB.1 hB.2
  have e : (mem1 M Ps R Zs gg).set 2 ⟨(lc Zs M).set Zs.length (blkC (sumC [Zs.getD (Zs.length - 1) [], Zs.getD (dn (Zs.getD (Zs.length - 1) []) / 256 % (Zs.length - 1)) []])), 0, true, 22⟩ = mem1 M Ps R (cgrow Zs) gg := by
    rw [lc_add _ _ _ hi]
    rfl
  rw [e] at h
  exact h
theorem step_later (M Ps p i : Nat) (R : Int) (Zs : List (List Int)) (gg : AHeap) (hM : 4 ≤ M ∧ M ≤ 64) (hg : G64 Zs) (hl : Zs.length = M) (hp : 0 < p) (hi : i < M) :
    ∃ x : Blk, ACall Tryd.prog glob false 15 [.ptr 1 0 0, iv p, iv 0, iv i] (mem1 M Ps R Zs gg) (.tup []) (mem1 M Ps R (turn 1 M (Zs, []) 0 i).1 (gg ++ [x])) := by
  have hia : (i + M - 1) % M < M := Nat.mod_lt _ (by omega)
  have hA := hg.at (show (i + M - 1) % M < Zs.length by omega)
  obtain ⟨A, hAd⟩ : ∃ A, Zs.getD ((i + M - 1) % M) [] = A := ⟨_, rfl⟩
  rw [hAd] at hA
  obtain ⟨d1, d2⟩ := drawP_in A
  have hidx : dn A / 256 % M < M := Nat.mod_lt _ (by omega)
  have hB := hg.at (show dn A / 256 % M < Zs.length by omega)
  have hC := hg.at (show i < Zs.length by omega)
  have h := step1_a (H := mem1 M Ps R Zs gg) (bc := 1) (vc := 0) (bL := 3) (vL := 0) (Lc := 1) (bl := 2) (vl := 0) (bk := 2) (vk := 0) (l := 0) (k := 0) (i := i) (idx := dn A / 256 % M) (ps := p) (ia := (i + M - 1) % M) (xL := false) (Ps := Ps) (R := R) (L := 1) (Mn := M)
    (LS := [.sl 2 0 0 M M 1 true]) (cs := lc Zs M) (cs2 := lc Zs M) (q := dn A) rfl rfl rfl (by omega) (by omega) rfl rfl (lc_len _ _ (by omega)) (by omega) hp hi rfl (by rw [lc_at _ _ _ (by omega), hAd]) hA.1 hA.2 d1 d2 (Nat.mod_one _) rfl rfl (lc_len _ _ (by omega)) rfl (lc_at _ _ _ (by omega)) hB.1 hB.2 (lc_at _ _ _ (by omega)) hC.1 hC.2
  rw [lc_set _ _ _ _ (by omega)] at h
  refine ⟨Blk.mk [blkC A, blkC (Zs.getD (dn A / 256 % M) []), blkC (Zs.getD i [])] 0 false 22, ?_⟩
  have e : (turn 1 M (Zs, []) 0 i).1 = Zs.set i (sumC [A, Zs.getD (dn A / 256 % M) [], Zs.getD i []]) := by
    unfold turn put2 pick2 anew pick2
    simp only [if_true, Nat.mod_one, hAd]
  rw [e]
  exact h
open Go.Proofs
open Go.Abs.B
set_option linter.unusedVariables false
set_option linter.unusedSimpArgs false
set_option maxRecDepth 100000
set_option maxHeartbeats 8000000
/-- Two lanes, behind so many passes. -/
def stage2 (F : List Int) (M : Nat) : Nat → List (List Int) × List (List Int)
  | 0 => (start F 0, start F 1)
  | 1 => (cgrows (M - 2) (start F 0), cgrows (M - 2) (start F 1))
  | p + 2 => turns 2 M 1 M (turns 2 M 0 M (stage2 F M (p + 1)))
theorem stage2_ok (F : List Int) (M : Nat) (hM : 2 ≤ M) : ∀ p, G64 (stage2 F M p).1 ∧ G64 (stage2 F M p).2 ∧ (stage2 F M (p + 1)).1.length = M ∧ (stage2 F M (p + 1)).2.length = M
  | 0 => ⟨start_g F 0, start_g F 1, by show (cgrows (M - 2) (start F 0)).length = M; rw [cgrows_len]; show 2 + (M - 2) = M; omega, by show (cgrows (M - 2) (start F 1)).length = M; rw [cgrows_len]; show 2 + (M - 2) = M; omega⟩
  | 1 => by
    have h0 := stage2_ok F M hM 0
    refine ⟨cgrows_g _ (start_g F 0), cgrows_g _ (start_g F 1), ?_, ?_⟩
    · show (turns 2 M 1 M (turns 2 M 0 M (stage2 F M 1))).1.length = M
      rw [(turns_len 2 M 1 M _).1, (turns_len 2 M 0 M _).1]
      exact h0.2.2.1
    · show (turns 2 M 1 M (turns 2 M 0 M (stage2 F M 1))).2.length = M
      rw [(turns_len 2 M 1 M _).2, (turns_len 2 M 0 M _).2]
      exact h0.2.2.2
  | p + 2 => by
    have h1 := stage2_ok F M hM (p + 1)
    have g0 := turns_g 2 M 0 M (stage2 F M (p + 1)) h1.1 h1.2.1
    have g1 := turns_g 2 M 1 M _ g0.1 g0.2
    refine ⟨g1.1, g1.2, ?_, ?_⟩
    · show (turns 2 M 1 M (turns 2 M 0 M (stage2 F M (p + 2)))).1.length = M
      rw [(turns_len 2 M 1 M _).1, (turns_len 2 M 0 M _).1]
      exact h1.2.2.1
    · show (turns 2 M 1 M (turns 2 M 0 M (stage2 F M (p + 2)))).2.length = M
      rw [(turns_len 2 M 1 M _).2, (turns_len 2 M 0 M _).2]
      exact h1.2.2.2
def hash2 (pw salt : List Int) (M Ps n : Nat) : List Int := sumP n [] (packP [(stage2 (firstC pw salt M Ps 2 n) M Ps).1.getD (M - 1) [], (stage2 (firstC pw salt M Ps 2 n) M Ps).2.getD (M - 1) []])
/-- The memory while two lanes are worked at. -/
def mem2 (M Ps : Nat) (R : Int) (Z : List (List Int) × List (List Int)) (gg : AHeap) : AHeap :=
  Blk.mk [iv M, iv Ps, iv 2, iv R] 0 true 25 :: celB M Ps 2 R (.sl 3 1 0 2 2 1 false) 0 :: Blk.mk (lc Z.1 M) 0 true 22 :: Blk.mk [.sl 2 0 0 M M 1 true, .sl 4 0 0 M M 1 true] 1 true 51 :: Blk.mk (lc Z.2 M) 0 true 22 :: gg
theorem step_first20 (M Ps : Nat) (R : Int) (Zs Z2 : List (List Int)) (gg : AHeap) (hM : 4 ≤ M ∧ M ≤ 64) (hg : G64 Zs) (h2 : 2 ≤ Zs.length) (hi : Zs.length < M) :
    ACall Tryd.prog glob false 15 [.ptr 1 0 0, iv 0, iv ((0 : Nat) : Int), iv Zs.length] (mem2 M Ps R (Zs, Z2) gg) (.tup []) (mem2 M Ps R (cgrow Zs, Z2) gg) := by
  have hlt : Zs.length - 1 < Zs.length := by omega
  have hA := hg.at hlt
  obtain ⟨d1, d2⟩ := drawP_in (Zs.getD (Zs.length - 1) [])
  have hidx : dn (Zs.getD (Zs.length - 1) []) / 256 % (Zs.length - 1) < Zs.length := by have := Nat.mod_lt (dn (Zs.getD (Zs.length - 1) []) / 256) (show 0 < Zs.length - 1 by omega); omega
  have hB := hg.at hidx
  have h := step0_a (H := mem2 M Ps R (Zs, Z2) gg) (bc := 1) (vc := 0) (bL := 3) (vL := 1) (Lc := 2) (bl := 2) (vl := 0) (l := 0) (i := Zs.length) (idx := dn (Zs.getD (Zs.length - 1) []) / 256 % (Zs.length - 1)) (xL := false) (Ps := Ps) (R := R) (L := 2) (Mn := M)
    (LS := [.sl 2 0 0 M M 1 true, .sl 4 0 0 M M 1 true]) (cs := lc Zs M) (q := dn (Zs.getD (Zs.length - 1) [])) rfl rfl rfl (by omega) (by omega) rfl rfl (lc_len _ _ (by omega)) (by omega) ⟨h2, hi⟩ (lc_at _ _ _ hlt) hA.1 hA.2 d1 d2 rfl (lc_at _ _ _ hidx) hB.1 hB.2
  rw [lc_add _ _ _ hi] at h
  exact h
theorem step_first21 (M Ps : Nat) (R : Int) (Z1 Zs : List (List Int)) (gg : AHeap) (hM : 4 ≤ M ∧ M ≤ 64) (hg : G64 Zs) (h2 : 2 ≤ Zs.length) (hi : Zs.length < M) :
    ACall Tryd.prog glob false 15 [.ptr 1 0 0, iv 0, iv ((1 : Nat) : Int), iv Zs.length] (mem2 M Ps R (Z1, Zs) gg) (.tup []) (mem2 M Ps R (Z1, cgrow Zs) gg) := by
  have hlt : Zs.length - 1 < Zs.length := by omega
  have hA := hg.at hlt
  obtain ⟨d1, d2⟩ := drawP_in (Zs.getD (Zs.length - 1) [])
  have hidx : dn (Zs.getD (Zs.length - 1) []) / 256 % (Zs.length - 1) < Zs.length := by have := Nat.mod_lt (dn (Zs.getD (Zs.length - 1) []) / 256) (show 0 < Zs.length - 1 by omega); omega
  have hB := hg.at hidx
  have h := step0_a (H := mem2 M Ps R (Z1, Zs) gg) (bc := 1) (vc := 0) (bL := 3) (vL := 1) (Lc := 2) (bl := 4) (vl := 0) (l := 1) (i := Zs.length) (idx := dn (Zs.getD (Zs.length - 1) []) / 256 % (Zs.length - 1)) (xL := false) (Ps := Ps) (R := R) (L := 2) (Mn := M)
    (LS := [.sl 2 0 0 M M 1 true, .sl 4 0 0 M M 1 true]) (cs := lc Zs M) (q := dn (Zs.getD (Zs.length - 1) [])) rfl rfl rfl (by omega) (by omega) rfl rfl (lc_len _ _ (by omega)) (by omega) ⟨h2, hi⟩ (lc_at _ _ _ hlt) hA.1 hA.2 d1 d2 rfl (lc_at _ _ _ hidx) hB.1 hB.2
  rw [lc_add _ _ _ hi] at h
  exact h
/-- Where lane k's block lies. -/
def blkAt (k : Nat) : Nat := if k = 0 then 2 else 4
theorem mem2_at (M Ps : Nat) (R : Int) (Z : List (List Int) × List (List Int)) (gg : AHeap) (k : Nat) (hk : k < 2) :
    (mem2 M Ps R Z gg)[blkAt k]? = some (Blk.mk (lc (pick2 Z k) M) 0 true 22) ∧ ([AV.sl 2 0 0 M M 1 true, AV.sl 4 0 0 M M 1 true] : List AV).getD k .any = .sl (blkAt k) 0 0 M M 1 true ∧
    ∀ (x : List (List Int)) (y : Blk), (mem2 M Ps R Z gg ++ [y]).set (blkAt k) (Blk.mk (lc x M) 0 true 22) = mem2 M Ps R (put2 Z k x) (gg ++ [y]) := by
  have : k = 0 ∨ k = 1 := by omega
  rcases this with rfl | rfl
  · exact ⟨rfl, rfl, fun _ _ => rfl⟩
  · exact ⟨rfl, rfl, fun _ _ => rfl⟩
theorem step_later2 (M Ps p l i : Nat) (R : Int) (Z : List (List Int) × List (List Int)) (gg : AHeap) (hM : 4 ≤ M ∧ M ≤ 64) (hg1 : G64 Z.1) (hg2 : G64 Z.2) (hl1 : Z.1.length = M) (hl2 : Z.2.length = M) (hl : l < 2) (hp : 0 < p) (hi : i < M) :
    ∃ x : Blk, ACall Tryd.prog glob false 15 [.ptr 1 0 0, iv p, iv l, iv i] (mem2 M Ps R Z gg) (.tup []) (mem2 M Ps R (turn 2 M Z l i) (gg ++ [x])) := by
  have pk : ∀ k, G64 (pick2 Z k) ∧ (pick2 Z k).length = M := fun k => by
    unfold pick2
    split
    · exact ⟨hg1, hl1⟩
    · exact ⟨hg2, hl2⟩
  have hia : (i + M - 1) % M < M := Nat.mod_lt _ (by omega)
  have hgl := pk l
  have hA := hgl.1.at (show (i + M - 1) % M < (pick2 Z l).length by omega)
  obtain ⟨A, hAd⟩ : ∃ A, (pick2 Z l).getD ((i + M - 1) % M) [] = A := ⟨_, rfl⟩
  rw [hAd] at hA
  obtain ⟨d1, d2⟩ := drawP_in A
  have hidx : dn A / 256 % M < M := Nat.mod_lt _ (by omega)
  have hk : dn A % 2 < 2 := Nat.mod_lt _ (by omega)
  have hgk := pk (dn A % 2)
  have hB := hgk.1.at (show dn A / 256 % M < (pick2 Z (dn A % 2)).length by omega)
  have hC := hgl.1.at (show i < (pick2 Z l).length by omega)
  obtain ⟨m1, m2, m3⟩ := mem2_at M Ps R Z gg l hl
  obtain ⟨n1, n2, _⟩ := mem2_at M Ps R Z gg (dn A % 2) hk
  have h := step1_a (H := mem2 M Ps R Z gg) (bc := 1) (vc := 0) (bL := 3) (vL := 1) (Lc := 2) (bl := blkAt l) (vl := 0) (bk := blkAt (dn A % 2)) (vk := 0) (l := l) (k := dn A % 2) (i := i) (idx := dn A / 256 % M) (ps := p) (ia := (i + M - 1) % M) (xL := false) (Ps := Ps) (R := R) (L := 2) (Mn := M)
    (LS := [.sl 2 0 0 M M 1 true, .sl 4 0 0 M M 1 true]) (cs := lc (pick2 Z l) M) (cs2 := lc (pick2 Z (dn A % 2)) M) (q := dn A) rfl rfl rfl hl (by omega) m2 m1 (lc_len _ _ (by omega)) (by omega) hp hi rfl (by rw [lc_at _ _ _ (by omega), hAd]) hA.1 hA.2 d1 d2 rfl n2 n1 (lc_len _ _ (by omega)) rfl (lc_at _ _ _ (by omega)) hB.1 hB.2 (lc_at _ _ _ (by omega)) hC.1 hC.2
  rw [lc_set _ _ _ _ (by omega)] at h
  refine ⟨Blk.mk [blkC A, blkC ((pick2 Z (dn A % 2)).getD (dn A / 256 % M) []), blkC ((pick2 Z l).getD i [])] 0 false 22, ?_⟩
  have e : turn 2 M Z l i = put2 Z l ((pick2 Z l).set i (sumC [A, (pick2 Z (dn A % 2)).getD (dn A / 256 % M) [], (pick2 Z l).getD i []])) := by
    unfold turn anew
    rw [hAd]
  rw [e, ← m3]
  exact h
open Go.Proofs
open Go.Abs.B
set_option linter.unusedVariables false
set_option linter.unusedSimpArgs false
set_option maxRecDepth 100000
set_option maxHeartbeats 8000000
theorem turns_one (M : Nat) (S : List (List Int)) : ∀ k, (turns 1 M 0 k (S, [])).2 = []
  | 0 => rfl
  | k + 1 => by
    have ih := turns_one M S k
    simp only [turns, turn, put2, if_true]
    exact ih
theorem turns_next (M : Nat) (S : List (List Int)) (k : Nat) : (turns 1 M 0 (k + 1) (S, [])).1 = (turn 1 M ((turns 1 M 0 k (S, [])).1, []) 0 k).1 := by
  have h := turns_one M S k
  show (turn 1 M (turns 1 M 0 k (S, [])) 0 k).1 = _
  have e : turns 1 M 0 k (S, []) = ((turns 1 M 0 k (S, [])).1, []) := Prod.ext rfl h
  rw [← e]
theorem goodC_of {M Ps L : Nat} (hM : 4 ≤ M ∧ M ≤ 64) (hP : 1 ≤ Ps ∧ Ps ≤ 4) (hL : 1 ≤ L ∧ L ≤ 2) : goodC M Ps L = true := by
  unfold goodC
  rw [decide_eq_true_eq]
  omega
theorem hash1_p (pw salt : List Int) (c1 c2 : Option Nat) (M Ps n : Nat) (R : Int) (hM : 4 ≤ M ∧ M ≤ 64) (hP : 1 ≤ Ps ∧ Ps ≤ 4) (hn : 1 ≤ n ∧ n ≤ 64) (hp : pw.length ≤ 200) (hs : salt.length ≤ 200) (bp : B8 pw) (bs : B8 salt) :
    PCall Tryd.prog glob 9 [.vsl pw.length (ints .u8 pw) c1, .vsl salt.length (ints .u8 salt) c2, cv M Ps 1 R, iv n] (.tup [.vsl n (ints .u8 (hash1 pw salt M Ps n)) none, iv 0]) := by
  refine PCall.of ctx.nr (List.forall_mem_cons.2 ⟨NR.vsl (NR.ints _ _), List.forall_mem_cons.2 ⟨NR.vsl (NR.ints _ _), List.forall_mem_cons.2 ⟨NR.cv _ _ _ _, List.forall_mem_cons.2 ⟨NR.v _, fun _ h => absurd h List.not_mem_nil⟩⟩⟩⟩) (NR.tup (by intro c hc; simp at hc; rcases hc with rfl | rfl; exact NR.vsl (NR.ints _ _); exact NR.v _)) ?_
  refine lcall9 (by simp) 0 (Nat.le_refl _) ?_
  unfold lc9
  simp only [List.length_cons, List.length_nil, Nat.reduceAdd, Nat.reduceSub, List.replicate_succ, List.replicate_zero, List.cons_append, List.nil_append]
  have gp := Good_p M Ps 1 R
  have hg := goodC_of (L := 1) hM hP ⟨by decide, by decide⟩
  rw [show ((1 : Nat) : Int) = 1 from rfl] at hg
  rw [hg] at gp
  have wp := within_p n 1 64
  rw [decide_eq_true (by omega)] at wp
  have ep := fun cx => eights_p M Ps 1 n 1 cx (by omega) (by omega) (by decide) (by omega) (by decide)
  obtain ⟨F, hF⟩ : ∃ F, firstC pw salt M Ps 1 n = F := ⟨_, rfl⟩
  have hFl : F.length = 64 := by rw [← hF]; exact sumC_length _
  have hF8 : B8 F := by rw [← hF]; exact sumC_b8 _
  have sp := fun cx => sum_p [.vsl 40 (ints .u8 (five M Ps 1 n 1)) none, .vsl pw.length (ints .u8 pw) c1, .vsl salt.length (ints .u8 salt) c2] cx [five M Ps 1 n 1, pw, salt] (Rws.cons (five_length _ _ _ _ _) (Rws.cons rfl (Rws.cons rfl Rws.nil))) (by simp) (fun r hr => by
    have h := five_length M Ps 1 n 1
    simp at hr
    rcases hr with rfl | rfl | rfl <;> omega) (fun r hr => by
    simp at hr
    rcases hr with rfl | rfl | rfl
    · exact five_b8 _ _ _ _ _
    · exact bp
    · exact bs)
  have hFs : sumC [five M Ps 1 n 1, pw, salt] = F := hF
  rw [hFs] at sp
  have fp := fill1_a (Blk.mk [iv M, iv Ps, iv 1, iv R] 0 true 25) M Ps R F hM hFl hF8
  have five5 : ∀ a b c d e : Int, (((((List.replicate 5 (0 : Int)).set 0 a).set 1 b).set 2 c).set 3 d).set 4 e = [a, b, c, d, e] := fun _ _ _ _ _ => rfl
  have three : ∀ x y z : AV, ((((List.replicate 3 (AV.v (Value.slice none 0 0))).set 0 x).set 1 y).set 2 z) = [x, y, z] := fun _ _ _ => rfl
  have spl : ∀ a b c d e w x y z : AV, splice [a, b, c, d, e] 0 [w, x, y, z] = [w, x, y, z, e] := fun _ _ _ _ _ _ _ _ _ => rfl
  repeat (first
    | (with_reducible refine lops_step fun K hK => ?_; simp (disch := first | omega | (simp only [go_sem, isRow, isFlat, Option.isSome_some]; done) | assumption | (simp only [ints_length, List.length_replicate, List.length_set, List.length_append, List.length_take, List.length_drop, List.length_cons, List.length_nil] <;> omega) | fail) only [go_sem, Nat.reduceAdd, Nat.reduceSub, reduceIte, Nat.reduceEqDiff, Int.reduceToNat, Int.reduceBEq, Int.reduceBNe, spl, five5, three]; (repeat (with_reducible refine And.intro (by first | omega | rfl | assumption | decide) ?_)); (first | (refine hK _ _ ?_) | (refine ⟨_, rfl, hK _ _ ?_⟩) | (refine Or.inr (hK _ _ ?_)) | (refine Or.inr ⟨rfl, hK _ _ ?_⟩) | (refine ⟨_, _, Or.inl (gp.go _), (by first | exact ⟨[], (List.append_nil _).symm⟩ | exact ⟨_, rfl⟩), hK _ _ ?_⟩) | (refine ⟨_, _, Or.inl (gp.go _), hK _ _ ?_⟩) | (refine ⟨_, _, Or.inl (gp.go _).weakQ, hK _ _ ?_⟩) | (refine ⟨_, _, Or.inl (wp.go _), (by first | exact ⟨[], (List.append_nil _).symm⟩ | exact ⟨_, rfl⟩), hK _ _ ?_⟩) | (refine ⟨_, _, Or.inl (wp.go _), hK _ _ ?_⟩) | (refine ⟨_, _, Or.inl (wp.go _).weakQ, hK _ _ ?_⟩) | (refine ⟨_, _, Or.inl ((ep _).go _), (by first | exact ⟨[], (List.append_nil _).symm⟩ | exact ⟨_, rfl⟩), hK _ _ ?_⟩) | (refine ⟨_, _, Or.inl ((ep _).go _), hK _ _ ?_⟩) | (refine ⟨_, _, Or.inl ((ep _).go _).weakQ, hK _ _ ?_⟩) | (refine ⟨_, _, Or.inl ((sp _).go _), (by first | exact ⟨[], (List.append_nil _).symm⟩ | exact ⟨_, rfl⟩), hK _ _ ?_⟩) | (refine ⟨_, _, Or.inl ((sp _).go _), hK _ _ ?_⟩) | (refine ⟨_, _, Or.inl ((sp _).go _).weakQ, hK _ _ ?_⟩) | (refine ⟨_, _, Or.inl (fp), (by first | exact ⟨[], (List.append_nil _).symm⟩ | exact ⟨_, rfl⟩), hK _ _ ?_⟩) | (refine ⟨_, _, Or.inl (fp), hK _ _ ?_⟩) | (refine ⟨_, _, Or.inl (fp).weakQ, hK _ _ ?_⟩)); clear hK K)
    | (with_reducible refine lops_nil ?_)
    | (with_reducible refine lavc_reg ?_)
    | (with_reducible refine lavc_seq ?_)
    | (with_reducible refine lavc_block ?_)
    | (with_reducible refine lavc_skip ?_)
    | (with_reducible refine lavc_exit ?_)
    | (with_reducible refine lavc_ret ?_)
    | (with_reducible refine lavcR_round ?_)
    | (simp only [↓reduceIte, Nat.reduceEqDiff, reduceCtorEq]))
  refine lavc_condF rfl ?_
  repeat (first
    | (with_reducible refine lops_step fun K hK => ?_; simp (disch := first | omega | (simp only [go_sem, isRow, isFlat, Option.isSome_some]; done) | assumption | (simp only [ints_length, List.length_replicate, List.length_set, List.length_append, List.length_take, List.length_drop, List.length_cons, List.length_nil] <;> omega) | fail) only [go_sem, Nat.reduceAdd, Nat.reduceSub, reduceIte, Nat.reduceEqDiff, Int.reduceToNat, Int.reduceBEq, Int.reduceBNe, spl, five5, three]; (repeat (with_reducible refine And.intro (by first | omega | rfl | assumption | decide) ?_)); (first | (refine hK _ _ ?_) | (refine ⟨_, rfl, hK _ _ ?_⟩) | (refine Or.inr (hK _ _ ?_)) | (refine Or.inr ⟨rfl, hK _ _ ?_⟩) | (refine ⟨_, _, Or.inl (gp.go _), (by first | exact ⟨[], (List.append_nil _).symm⟩ | exact ⟨_, rfl⟩), hK _ _ ?_⟩) | (refine ⟨_, _, Or.inl (gp.go _), hK _ _ ?_⟩) | (refine ⟨_, _, Or.inl (gp.go _).weakQ, hK _ _ ?_⟩) | (refine ⟨_, _, Or.inl (wp.go _), (by first | exact ⟨[], (List.append_nil _).symm⟩ | exact ⟨_, rfl⟩), hK _ _ ?_⟩) | (refine ⟨_, _, Or.inl (wp.go _), hK _ _ ?_⟩) | (refine ⟨_, _, Or.inl (wp.go _).weakQ, hK _ _ ?_⟩) | (refine ⟨_, _, Or.inl ((ep _).go _), (by first | exact ⟨[], (List.append_nil _).symm⟩ | exact ⟨_, rfl⟩), hK _ _ ?_⟩) | (refine ⟨_, _, Or.inl ((ep _).go _), hK _ _ ?_⟩) | (refine ⟨_, _, Or.inl ((ep _).go _).weakQ, hK _ _ ?_⟩) | (refine ⟨_, _, Or.inl ((sp _).go _), (by first | exact ⟨[], (List.append_nil _).symm⟩ | exact ⟨_, rfl⟩), hK _ _ ?_⟩) | (refine ⟨_, _, Or.inl ((sp _).go _), hK _ _ ?_⟩) | (refine ⟨_, _, Or.inl ((sp _).go _).weakQ, hK _ _ ?_⟩) | (refine ⟨_, _, Or.inl (fp), (by first | exact ⟨[], (List.append_nil _).symm⟩ | exact ⟨_, rfl⟩), hK _ _ ?_⟩) | (refine ⟨_, _, Or.inl (fp), hK _ _ ?_⟩) | (refine ⟨_, _, Or.inl (fp).weakQ, hK _ _ ?_⟩)); clear hK K)
    | (with_reducible refine lops_nil ?_)
    | (with_reducible refine lavc_reg ?_)
    | (with_reducible refine lavc_seq ?_)
    | (with_reducible refine lavc_block ?_)
    | (with_reducible refine lavc_skip ?_)
    | (with_reducible refine lavc_exit ?_)
    | (with_reducible refine lavc_ret ?_)
    | (with_reducible refine lavcR_round ?_)
    | (simp only [↓reduceIte, Nat.reduceEqDiff, reduceCtorEq]))
  have i1 : IntKind.i64.wrap (0 + 1) = 1 := by decide
  refine lavc_loopM ms9_0 (fun m (x : Nat × AHeap) => m + x.1 = Ps) (fun x => [(55, iv x.1)]) (fun x => mem1 M Ps R (stage1 F M x.1) x.2) Ps (0, []) (by omega) ?_ ?_ ?_
  · simp only [ms9_0, putAll, blank, List.foldl_cons, List.foldl_nil, List.set_cons_succ, List.set_cons_zero, List.cons_append, List.nil_append, ALe, true_or, or_true, and_true, true_and, eq_self, reduceCtorEq, false_or]
    rfl
  · rfl
  rintro m ⟨p, gg⟩ hpm
  simp only at hpm ⊢
  simp only [ms9_0, putAll, blank, List.foldl_cons, List.foldl_nil, List.set_cons_succ, List.set_cons_zero, List.cons_append, List.nil_append]
  have hst := stage1_ok F M (by omega) p
  repeat (first
    | (with_reducible refine lops_step fun K hK => ?_; simp (disch := first | omega | (simp only [go_sem, isRow, isFlat, Option.isSome_some]; done) | assumption | (simp only [ints_length, List.length_replicate, List.length_set, List.length_append, List.length_take, List.length_drop, List.length_cons, List.length_nil] <;> omega) | fail) only [go_sem, Nat.reduceAdd, Nat.reduceSub, reduceIte, Nat.reduceEqDiff, Int.reduceToNat, Int.reduceBEq, Int.reduceBNe]; (repeat (with_reducible refine And.intro (by first | omega | rfl | assumption | decide) ?_)); (first | (refine hK _ _ ?_) | (refine ⟨_, rfl, hK _ _ ?_⟩) | (refine Or.inl (hK _ _ ?_))); clear hK K)
    | (with_reducible refine lops_nil ?_)
    | (with_reducible refine lavc_reg ?_)
    | (with_reducible refine lavc_seq ?_)
    | (with_reducible refine lavc_block ?_)
    | (with_reducible refine lavc_skip ?_)
    | (with_reducible refine lavc_exit ?_)
    | (with_reducible refine lavc_ret ?_)
    | (with_reducible refine lavcR_round ?_)
    | (simp only [↓reduceIte, Nat.reduceEqDiff, reduceCtorEq]))
  refine lavc_cond rfl (fun hc => ?_) (fun hc => ?_) <;> try simp only [decide_eq_true_eq, decide_eq_false_iff_not, Int.not_lt, Int.not_le, beq_iff_eq, bne_iff_ne, bne_eq_false_iff_eq, beq_eq_false_iff_ne, ne_eq, Bool.not_eq_true', Bool.not_eq_false'] at hc
  · have hpe := i64n ((p : Int) + 1) (p + 1) (by omega) (by omega)
    by_cases h0 : p = 0
    · subst h0
      have z0 : (((0 : Nat) : Int) == 0) = true := rfl
      repeat (first
        | (with_reducible refine lops_step fun K hK => ?_; simp (disch := first | omega | (simp only [go_sem, isRow, isFlat, Option.isSome_some]; done) | assumption | (simp only [ints_length, List.length_replicate, List.length_set, List.length_append, List.length_take, List.length_drop, List.length_cons, List.length_nil] <;> omega) | fail) only [go_sem, Nat.reduceAdd, Nat.reduceSub, reduceIte, Nat.reduceEqDiff, Int.reduceToNat, Int.reduceBEq, Int.reduceBNe, mem1]; (try (first | (refine And.intro (fun _ => ?_) (fun h => absurd h (by decide))) | (refine And.intro (fun h => absurd h (by decide)) (fun _ => ?_)))); (repeat (with_reducible refine And.intro (by first | omega | rfl | assumption | decide) ?_)); (first | (refine hK _ _ ?_) | (refine ⟨_, rfl, hK _ _ ?_⟩) | (refine Or.inl (hK _ _ ?_))); clear hK K)
        | (with_reducible refine lops_nil ?_)
        | (with_reducible refine lavc_reg ?_)
        | (with_reducible refine lavc_seq ?_)
        | (with_reducible refine lavc_block ?_)
        | (with_reducible refine lavc_skip ?_)
        | (with_reducible refine lavc_exit ?_)
        | (with_reducible refine lavc_ret ?_)
        | (with_reducible refine lavcR_round ?_)
        | (refine lavc_cond rfl (fun _ => ?_) (fun hc => absurd hc (by decide)))
        | (refine lavc_cond rfl (fun hc => absurd hc (by decide)) (fun _ => ?_))
        | (simp only [↓reduceIte, Nat.reduceEqDiff, reduceCtorEq]))
      refine lavc_rounds 2 ?_
      repeat (first
        | (with_reducible refine lops_step fun K hK => ?_; simp (disch := first | omega | (simp only [go_sem, isRow, isFlat, Option.isSome_some]; done) | assumption | (simp only [ints_length, List.length_replicate, List.length_set, List.length_append, List.length_take, List.length_drop, List.length_cons, List.length_nil] <;> omega) | fail) only [go_sem, Nat.reduceAdd, Nat.reduceSub, reduceIte, Nat.reduceEqDiff, Int.reduceToNat, Int.reduceBEq, Int.reduceBNe, mem1, z0, i1]; (try (first | (refine And.intro (fun _ => ?_) (fun h => absurd h (by decide))) | (refine And.intro (fun h => absurd h (by decide)) (fun _ => ?_)))); (repeat (with_reducible refine And.intro (by first | omega | rfl | assumption | decide) ?_)); (first | (refine hK _ _ ?_) | (refine ⟨_, rfl, hK _ _ ?_⟩) | (refine Or.inl (hK _ _ ?_))); clear hK K)
        | (with_reducible refine lops_nil ?_)
        | (with_reducible refine lavc_reg ?_)
        | (with_reducible refine lavc_seq ?_)
        | (with_reducible refine lavc_block ?_)
        | (with_reducible refine lavc_skip ?_)
        | (with_reducible refine lavc_exit ?_)
        | (with_reducible refine lavc_ret ?_)
        | (with_reducible refine lavcR_round ?_)
        | (refine lavc_cond rfl (fun _ => ?_) (fun hc => absurd hc (by decide)))
        | (refine lavc_cond rfl (fun hc => absurd hc (by decide)) (fun _ => ?_))
        | (simp only [↓reduceIte, Nat.reduceEqDiff, reduceCtorEq]))
      refine lavc_loopM ms9_2 (fun m (i : Nat) => m + i = M ∧ 2 ≤ i) (fun i => [(14, iv i)]) (fun i => mem1 M Ps R (cgrows (i - 2) (start F 0)) gg) (M - 2) 2 ⟨by omega, by omega⟩ ?_ ?_ ?_
      · simp only [ms9_2, putAll, blank, List.foldl_cons, List.foldl_nil, List.set_cons_succ, List.set_cons_zero, List.cons_append, List.nil_append, ALe, true_or, or_true, and_true, true_and, eq_self, reduceCtorEq, false_or]
        rfl
      · rfl
      rintro m' i ⟨hi, hi2⟩
      simp only [ms9_2, putAll, blank, List.foldl_cons, List.foldl_nil, List.set_cons_succ, List.set_cons_zero, List.cons_append, List.nil_append]
      have hie := i64n ((i : Int) + 1) (i + 1) (by omega) (by omega)
      have hcl : (cgrows (i - 2) (start F 0)).length = i := by rw [cgrows_len]; show 2 + (i - 2) = i; omega
      repeat (first
        | (with_reducible refine lops_step fun K hK => ?_; simp (disch := first | omega | (simp only [go_sem, isRow, isFlat, Option.isSome_some]; done) | assumption | (simp only [ints_length, List.length_replicate, List.length_set, List.length_append, List.length_take, List.length_drop, List.length_cons, List.length_nil] <;> omega) | fail) only [go_sem, Nat.reduceAdd, Nat.reduceSub, reduceIte, Nat.reduceEqDiff, Int.reduceToNat, Int.reduceBEq, Int.reduceBNe, mem1]; (repeat (with_reducible refine And.intro (by first | omega | rfl | assumption | decide) ?_)); (first | (refine hK _ _ ?_) | (refine ⟨_, rfl, hK _ _ ?_⟩) | (refine Or.inl (hK _ _ ?_))); clear hK K)
        | (with_reducible refine lops_nil ?_)
        | (with_reducible refine lavc_reg ?_)
        | (with_reducible refine lavc_seq ?_)
        | (with_reducible refine lavc_block ?_)
        | (with_reducible refine lavc_skip ?_)
        | (with_reducible refine lavc_exit ?_)
        | (with_reducible refine lavc_ret ?_)
        | (with_reducible refine lavcR_round ?_)
        | (simp only [↓reduceIte, Nat.reduceEqDiff, reduceCtorEq]))
      refine lavc_cond rfl (fun hc => ?_) (fun hc => ?_) <;> try simp only [decide_eq_true_eq, decide_eq_false_iff_not, Int.not_lt, Int.not_le, beq_iff_eq, bne_iff_ne, bne_eq_false_iff_eq, beq_eq_false_iff_ne, ne_eq, Bool.not_eq_true', Bool.not_eq_false'] at hc
      · have stp := step_first M Ps R (cgrows (i - 2) (start F 0)) gg hM (cgrows_g _ (start_g F 0)) (by omega) (by omega)
        rw [hcl] at stp
        unfold mem1 at stp
        have c0 : ((0 : Nat) : Int) = 0 := rfl
        repeat (first
          | (with_reducible refine lops_step fun K hK => ?_; simp (disch := first | omega | (simp only [go_sem, isRow, isFlat, Option.isSome_some]; done) | assumption | (simp only [ints_length, List.length_replicate, List.length_set, List.length_append, List.length_take, List.length_drop, List.length_cons, List.length_nil] <;> omega) | fail) only [go_sem, Nat.reduceAdd, Nat.reduceSub, reduceIte, Nat.reduceEqDiff, Int.reduceToNat, Int.reduceBEq, Int.reduceBNe, mem1, hie, c0]; (repeat (with_reducible refine And.intro (by first | omega | rfl | assumption | decide) ?_)); (first | (refine hK _ _ ?_) | (refine ⟨_, rfl, hK _ _ ?_⟩) | (refine Or.inl (hK _ _ ?_)) | (refine ⟨_, _, Or.inl (stp), (by first | exact ⟨[], (List.append_nil _).symm⟩ | exact ⟨_, rfl⟩), hK _ _ ?_⟩) | (refine ⟨_, _, Or.inl (stp), hK _ _ ?_⟩) | (refine ⟨_, _, Or.inl (stp).weakQ, hK _ _ ?_⟩)); clear hK K)
          | (with_reducible refine lops_nil ?_)
          | (with_reducible refine lavc_reg ?_)
          | (with_reducible refine lavc_seq ?_)
          | (with_reducible refine lavc_block ?_)
          | (with_reducible refine lavc_skip ?_)
          | (with_reducible refine lavc_exit ?_)
          | (with_reducible refine lavc_ret ?_)
          | (with_reducible refine lavcR_round ?_)
          | (simp only [↓reduceIte, Nat.reduceEqDiff, reduceCtorEq]))
        refine ⟨m' - 1, i + 1, by omega, ⟨by omega, by omega⟩, ?_, ?_⟩
        · simp only [ms9_2, putAll, blank, List.foldl_cons, List.foldl_nil, List.set_cons_succ, List.set_cons_zero, List.cons_append, List.nil_append, ALe, true_or, or_true, and_true, true_and, eq_self, reduceCtorEq, false_or]
          exact ⟨rfl, rfl, rfl, rfl, rfl⟩
        · obtain ⟨k, rfl⟩ : ∃ k, i = k + 2 := ⟨i - 2, by omega⟩
          rfl
      obtain rfl : i = M := by omega
      repeat (first
        | (with_reducible refine lops_step fun K hK => ?_; simp (disch := first | omega | (simp only [go_sem, isRow, isFlat, Option.isSome_some]; done) | assumption | (simp only [ints_length, List.length_replicate, List.length_set, List.length_append, List.length_take, List.length_drop, List.length_cons, List.length_nil] <;> omega) | fail) only [go_sem, Nat.reduceAdd, Nat.reduceSub, reduceIte, Nat.reduceEqDiff, Int.reduceToNat, Int.reduceBEq, Int.reduceBNe, mem1, i1, hpe]; (try (first | (refine And.intro (fun _ => ?_) (fun h => absurd h (by decide))) | (refine And.intro (fun h => absurd h (by decide)) (fun _ => ?_)))); (repeat (with_reducible refine And.intro (by first | omega | rfl | assumption | decide) ?_)); (first | (refine hK _ _ ?_) | (refine ⟨_, rfl, hK _ _ ?_⟩) | (refine Or.inl (hK _ _ ?_))); clear hK K)
        | (with_reducible refine lops_nil ?_)
        | (with_reducible refine lavc_reg ?_)
        | (with_reducible refine lavc_seq ?_)
        | (with_reducible refine lavc_block ?_)
        | (with_reducible refine lavc_skip ?_)
        | (with_reducible refine lavc_exit ?_)
        | (with_reducible refine lavc_ret ?_)
        | (with_reducible refine lavcR_round ?_)
        | (refine lavc_cond rfl (fun _ => ?_) (fun hc => absurd hc (by decide)))
        | (refine lavc_cond rfl (fun hc => absurd hc (by decide)) (fun _ => ?_))
        | (simp only [↓reduceIte, Nat.reduceEqDiff, reduceCtorEq]))
      refine ⟨m - 1, (1, gg), by omega, by show m - 1 + 1 = Ps; omega, ?_, ?_⟩
      · simp only [ms9_0, putAll, blank, List.foldl_cons, List.foldl_nil, List.set_cons_succ, List.set_cons_zero, List.cons_append, List.nil_append, ALe, true_or, or_true, and_true, true_and, eq_self, reduceCtorEq, false_or]
      · rfl
    · obtain ⟨p', rfl⟩ : ∃ p', p = p' + 1 := ⟨p - 1, by omega⟩
      have hlen := (stage1_ok F M (by omega) p').2
      obtain ⟨S, hS⟩ : ∃ S, stage1 F M (p' + 1) = S := ⟨_, rfl⟩
      have hnx : stage1 F M (p' + 1 + 1) = (turns 1 M 0 M (S, [])).1 := by rw [← hS]; rfl
      rw [hS] at hst hlen ⊢
      have zp : ((((p' + 1 : Nat) : Int) : Int) == 0) = false := by rw [beq_eq_false_iff_ne, ne_eq]; omega
      repeat (first
        | (with_reducible refine lops_step fun K hK => ?_; simp (disch := first | omega | (simp only [go_sem, isRow, isFlat, Option.isSome_some]; done) | assumption | (simp only [ints_length, List.length_replicate, List.length_set, List.length_append, List.length_take, List.length_drop, List.length_cons, List.length_nil] <;> omega) | fail) only [go_sem, Nat.reduceAdd, Nat.reduceSub, reduceIte, Nat.reduceEqDiff, Int.reduceToNat, Int.reduceBEq, Int.reduceBNe, mem1]; (try (first | (refine And.intro (fun _ => ?_) (fun h => absurd h (by decide))) | (refine And.intro (fun h => absurd h (by decide)) (fun _ => ?_)))); (repeat (with_reducible refine And.intro (by first | omega | rfl | assumption | decide) ?_)); (first | (refine hK _ _ ?_) | (refine ⟨_, rfl, hK _ _ ?_⟩) | (refine Or.inl (hK _ _ ?_))); clear hK K)
        | (with_reducible refine lops_nil ?_)
        | (with_reducible refine lavc_reg ?_)
        | (with_reducible refine lavc_seq ?_)
        | (with_reducible refine lavc_block ?_)
        | (with_reducible refine lavc_skip ?_)
        | (with_reducible refine lavc_exit ?_)
        | (with_reducible refine lavc_ret ?_)
        | (with_reducible refine lavcR_round ?_)
        | (refine lavc_cond rfl (fun _ => ?_) (fun hc => absurd hc (by decide)))
        | (refine lavc_cond rfl (fun hc => absurd hc (by decide)) (fun _ => ?_))
        | (simp only [↓reduceIte, Nat.reduceEqDiff, reduceCtorEq]))
      refine lavc_rounds 2 ?_
      repeat (first
        | (with_reducible refine lops_step fun K hK => ?_; simp (disch := first | omega | (simp only [go_sem, isRow, isFlat, Option.isSome_some]; done) | assumption | (simp only [ints_length, List.length_replicate, List.length_set, List.length_append, List.length_take, List.length_drop, List.length_cons, List.length_nil] <;> omega) | fail) only [go_sem, Nat.reduceAdd, Nat.reduceSub, reduceIte, Nat.reduceEqDiff, Int.reduceToNat, Int.reduceBEq, Int.reduceBNe, mem1, zp, i1]; (try (first | (refine And.intro (fun _ => ?_) (fun h => absurd h (by decide))) | (refine And.intro (fun h => absurd h (by decide)) (fun _ => ?_)))); (repeat (with_reducible refine And.intro (by first | omega | rfl | assumption | decide) ?_)); (first | (refine hK _ _ ?_) | (refine ⟨_, rfl, hK _ _ ?_⟩) | (refine Or.inl (hK _ _ ?_))); clear hK K)
        | (with_reducible refine lops_nil ?_)
        | (with_reducible refine lavc_reg ?_)
        | (with_reducible refine lavc_seq ?_)
        | (with_reducible refine lavc_block ?_)
        | (with_reducible refine lavc_skip ?_)
        | (with_reducible refine lavc_exit ?_)
        | (with_reducible refine lavc_ret ?_)
        | (with_reducible refine lavcR_round ?_)
        | (refine lavc_cond rfl (fun _ => ?_) (fun hc => absurd hc (by decide)))
        | (refine lavc_cond rfl (fun hc => absurd hc (by decide)) (fun _ => ?_))
        | (simp only [↓reduceIte, Nat.reduceEqDiff, reduceCtorEq]))
      refine lavc_loopM ms9_2 (fun m (x : Nat × AHeap) => m + x.1 = M) (fun x => [(14, iv x.1)]) (fun x => mem1 M Ps R (turns 1 M 0 x.1 (S, [])).1 x.2) M (0, gg) (by omega) ?_ ?_ ?_
      · simp only [ms9_2, putAll, blank, List.foldl_cons, List.foldl_nil, List.set_cons_succ, List.set_cons_zero, List.cons_append, List.nil_append, ALe, true_or, or_true, and_true, true_and, eq_self, reduceCtorEq, false_or]
        rfl
      · rfl
      rintro m' ⟨i, g2⟩ hi
      simp only at hi ⊢
      simp only [ms9_2, putAll, blank, List.foldl_cons, List.foldl_nil, List.set_cons_succ, List.set_cons_zero, List.cons_append, List.nil_append]
      have hie := i64n ((i : Int) + 1) (i + 1) (by omega) (by omega)
      have hsl : (turns 1 M 0 i (S, [])).1.length = M := by rw [(turns_len 1 M 0 i _).1]; exact hlen
      have hsg := (turns_g 1 M 0 i (S, []) hst.1 G64.nil).1
      repeat (first
        | (with_reducible refine lops_step fun K hK => ?_; simp (disch := first | omega | (simp only [go_sem, isRow, isFlat, Option.isSome_some]; done) | assumption | (simp only [ints_length, List.length_replicate, List.length_set, List.length_append, List.length_take, List.length_drop, List.length_cons, List.length_nil] <;> omega) | fail) only [go_sem, Nat.reduceAdd, Nat.reduceSub, reduceIte, Nat.reduceEqDiff, Int.reduceToNat, Int.reduceBEq, Int.reduceBNe, mem1]; (repeat (with_reducible refine And.intro (by first | omega | rfl | assumption | decide) ?_)); (first | (refine hK _ _ ?_) | (refine ⟨_, rfl, hK _ _ ?_⟩) | (refine Or.inl (hK _ _ ?_))); clear hK K)
        | (with_reducible refine lops_nil ?_)
        | (with_reducible refine lavc_reg ?_)
        | (with_reducible refine lavc_seq ?_)
        | (with_reducible refine lavc_block ?_)
        | (with_reducible refine lavc_skip ?_)
        | (with_reducible refine lavc_exit ?_)
        | (with_reducible refine lavc_ret ?_)
        | (with_reducible refine lavcR_round ?_)
        | (simp only [↓reduceIte, Nat.reduceEqDiff, reduceCtorEq]))
      refine lavc_cond rfl (fun hc => ?_) (fun hc => ?_) <;> try simp only [decide_eq_true_eq, decide_eq_false_iff_not, Int.not_lt, Int.not_le, beq_iff_eq, bne_iff_ne, bne_eq_false_iff_eq, beq_eq_false_iff_ne, ne_eq, Bool.not_eq_true', Bool.not_eq_false'] at hc
      · obtain ⟨x, stp⟩ := step_later M Ps (p' + 1) i R (turns 1 M 0 i (S, [])).1 g2 hM hsg hsl (by omega) (by omega)
        rw [← turns_next] at stp
        unfold mem1 at stp
        repeat (first
          | (with_reducible refine lops_step fun K hK => ?_; simp (disch := first | omega | (simp only [go_sem, isRow, isFlat, Option.isSome_some]; done) | assumption | (simp only [ints_length, List.length_replicate, List.length_set, List.length_append, List.length_take, List.length_drop, List.length_cons, List.length_nil] <;> omega) | fail) only [go_sem, Nat.reduceAdd, Nat.reduceSub, reduceIte, Nat.reduceEqDiff, Int.reduceToNat, Int.reduceBEq, Int.reduceBNe, mem1, hie]; (repeat (with_reducible refine And.intro (by first | omega | rfl | assumption | decide) ?_)); (first | (refine hK _ _ ?_) | (refine ⟨_, rfl, hK _ _ ?_⟩) | (refine Or.inl (hK _ _ ?_)) | (refine ⟨_, _, Or.inl (stp), (by first | exact ⟨[], (List.append_nil _).symm⟩ | exact ⟨_, rfl⟩), hK _ _ ?_⟩) | (refine ⟨_, _, Or.inl (stp), hK _ _ ?_⟩) | (refine ⟨_, _, Or.inl (stp).weakQ, hK _ _ ?_⟩)); clear hK K)
          | (with_reducible refine lops_nil ?_)
          | (with_reducible refine lavc_reg ?_)
          | (with_reducible refine lavc_seq ?_)
          | (with_reducible refine lavc_block ?_)
          | (with_reducible refine lavc_skip ?_)
          | (with_reducible refine lavc_exit ?_)
          | (with_reducible refine lavc_ret ?_)
          | (with_reducible refine lavcR_round ?_)
          | (simp only [↓reduceIte, Nat.reduceEqDiff, reduceCtorEq]))
        refine ⟨m' - 1, (i + 1, g2 ++ [x]), by omega, by show m' - 1 + (i + 1) = M; omega, ?_, ?_⟩
        · simp only [ms9_2, putAll, blank, List.foldl_cons, List.foldl_nil, List.set_cons_succ, List.set_cons_zero, List.cons_append, List.nil_append, ALe, true_or, or_true, and_true, true_and, eq_self, reduceCtorEq, false_or]
        · rfl
      obtain rfl : i = M := by omega
      repeat (first
        | (with_reducible refine lops_step fun K hK => ?_; simp (disch := first | omega | (simp only [go_sem, isRow, isFlat, Option.isSome_some]; done) | assumption | (simp only [ints_length, List.length_replicate, List.length_set, List.length_append, List.length_take, List.length_drop, List.length_cons, List.length_nil] <;> omega) | fail) only [go_sem, Nat.reduceAdd, Nat.reduceSub, reduceIte, Nat.reduceEqDiff, Int.reduceToNat, Int.reduceBEq, Int.reduceBNe, mem1, i1, hpe]; (try (first | (refine And.intro (fun _ => ?_) (fun h => absurd h (by decide))) | (refine And.intro (fun h => absurd h (by decide)) (fun _ => ?_)))); (repeat (with_reducible refine And.intro (by first | omega | rfl | assumption | decide) ?_)); (first | (refine hK _ _ ?_) | (refine ⟨_, rfl, hK _ _ ?_⟩) | (refine Or.inl (hK _ _ ?_))); clear hK K)
        | (with_reducible refine lops_nil ?_)
        | (with_reducible refine lavc_reg ?_)
        | (with_reducible refine lavc_seq ?_)
        | (with_reducible refine lavc_block ?_)
        | (with_reducible refine lavc_skip ?_)
        | (with_reducible refine lavc_exit ?_)
        | (with_reducible refine lavc_ret ?_)
        | (with_reducible refine lavcR_round ?_)
        | (refine lavc_cond rfl (fun _ => ?_) (fun hc => absurd hc (by decide)))
        | (refine lavc_cond rfl (fun hc => absurd hc (by decide)) (fun _ => ?_))
        | (simp only [↓reduceIte, Nat.reduceEqDiff, reduceCtorEq]))
      refine ⟨m - 1, (p' + 1 + 1, g2), by omega, by show m - 1 + (p' + 1 + 1) = Ps; omega, ?_, ?_⟩
      · simp only [ms9_0, putAll, blank, List.foldl_cons, List.foldl_nil, List.set_cons_succ, List.set_cons_zero, List.cons_append, List.nil_append, ALe, true_or, or_true, and_true, true_and, eq_self, reduceCtorEq, false_or]
      · rw [hnx]
        rfl
  obtain rfl : p = Ps := by omega
  obtain ⟨p', hp'⟩ : ∃ p', p = p' + 1 := ⟨p - 1, by omega⟩
  have hlen := (stage1_ok F M (by omega) p').2
  rw [← hp'] at hlen
  have hgz := hst.1.at (show M - 1 < (stage1 F M p).length by omega)
  obtain ⟨S, hS⟩ : ∃ S, stage1 F M p = S := ⟨_, rfl⟩
  rw [hS] at hlen hgz ⊢
  obtain ⟨Z, hZ⟩ : ∃ Z, S.getD (M - 1) [] = Z := ⟨_, rfl⟩
  rw [hZ] at hgz
  have hh : hash1 pw salt M p n = sumP n [] (packP [Z]) := by unfold hash1; rw [hF, hS, hZ]
  rw [hh]
  have la := lasts1_a (H := mem1 M p R S gg) (bc := 1) (vc := 0) (bL := 3) (vL := 0) (Lc := 1) (b0 := 2) (v0 := 0) (xL := false) (M := M) (Ps := p) (L := 1) (R := R) (cs := lc S M) (A := Z) rfl rfl rfl (lc_len _ _ (by omega)) (by omega) (by rw [lc_at _ _ _ (by omega), hZ])
  unfold mem1 at la
  simp only [List.length_cons, List.cons_append] at la
  have pp := fun cx => pack_p [Z] [blkC Z] cx (Rws.cons hgz.1 Rws.nil) (by simp) (fun r hr => by simp at hr; subst hr; omega)
  have hpl := pack_len [Z] 64 (fun r hr => by simp at hr; subst hr; omega)
  have hpb := pack_b8 [Z] (fun r hr => by simp at hr; subst hr; exact hgz.2)
  obtain ⟨T, hT⟩ : ∃ T, packP [Z] = T := ⟨_, rfl⟩
  rw [hT] at pp hpl hpb ⊢
  have sm := fun cx => (Sum_p n [] none 0 rfl (by omega) (by omega) (by decide) B8.nil [.vsl T.length (ints .u8 T) none] cx [T] (Rws.cons rfl Rws.nil) T (by simp) hpb (by simp at hpl; omega) (by simp)).les (args := [.v (.int .i64 n), .v (.slice none 0 0), .vsl [T].length [.vsl T.length (ints .u8 T) none] cx]) ⟨AvLe.refl _, AvLe.nil, AvLe.refl _, trivial⟩
  have one : ∀ x : AV, (List.replicate 1 (AV.v (Value.slice none 0 0))).set 0 x = [x] := fun _ => rfl
  have tk1 : List.take 1 [blkC Z] = [blkC Z] := rfl
  repeat (first
    | (with_reducible refine lops_step fun K hK => ?_; simp (disch := first | omega | (simp only [go_sem, isRow, isFlat, Option.isSome_some]; done) | assumption | (simp only [ints_length, List.length_replicate, List.length_set, List.length_append, List.length_take, List.length_drop, List.length_cons, List.length_nil] <;> omega) | fail) only [go_sem, Nat.reduceAdd, Nat.reduceSub, reduceIte, Nat.reduceEqDiff, Int.reduceToNat, Int.reduceBEq, Int.reduceBNe, mem1]; (repeat (with_reducible refine And.intro (by first | omega | rfl | assumption | decide) ?_)); (first | (refine hK _ _ ?_) | (refine ⟨_, rfl, hK _ _ ?_⟩) | (refine Or.inl (hK _ _ ?_)) | (refine ⟨_, _, Or.inl (la), (by first | exact ⟨[], (List.append_nil _).symm⟩ | exact ⟨_, rfl⟩), hK _ _ ?_⟩) | (refine ⟨_, _, Or.inl (la), hK _ _ ?_⟩) | (refine ⟨_, _, Or.inl (la).weakQ, hK _ _ ?_⟩)); clear hK K)
    | (with_reducible refine lops_nil ?_)
    | (with_reducible refine lavc_reg ?_)
    | (with_reducible refine lavc_seq ?_)
    | (with_reducible refine lavc_block ?_)
    | (with_reducible refine lavc_skip ?_)
    | (with_reducible refine lavc_exit ?_)
    | (with_reducible refine lavc_ret ?_)
    | (with_reducible refine lavcR_round ?_)
    | (simp only [↓reduceIte, Nat.reduceEqDiff, reduceCtorEq]))
  refine lops_fz [gg.length + 1 + 1 + 1 + 1] ?_
  simp (disch := first | omega | (simp only [go_sem, isRow, isFlat, Option.isSome_some]; done) | assumption | (simp only [ints_length, List.length_replicate, List.length_set, List.length_append, List.length_take, List.length_drop, List.length_cons, List.length_nil] <;> omega) | fail) only [afz, fzV, fzS, fz_ints, List.map_cons, List.map_nil, List.getElem?_cons_zero, List.getElem?_cons_succ, List.set_cons_zero, List.set_cons_succ, ints_length, true_and, and_true, and_self, if_true, if_false, ↓reduceIte, Nat.reduceEqDiff, Nat.reduceLeDiff, Nat.reduceMul, Nat.reduceAdd, Nat.zero_add, Nat.mul_one, Nat.le_refl, List.length_replicate, List.drop_zero, ints_drop, ints_take, List.take_of_length_le, false_and, and_false, reduceCtorEq, Bool.false_eq_true, forall_const, if_pos, if_neg, get_concat, set_concat, tk1, List.getElem?_cons_succ, List.set_cons_succ]
  (repeat (with_reducible refine And.intro (by first | omega | rfl | assumption | decide) ?_))
  intro K hK
  simp (disch := first | omega | (simp only [go_sem, isRow, isFlat, Option.isSome_some]; done) | assumption | (simp only [ints_length, List.length_replicate, List.length_set, List.length_append, List.length_take, List.length_drop, List.length_cons, List.length_nil] <;> omega) | fail) only [go_sem, Nat.reduceAdd, Nat.reduceSub, reduceIte, Nat.reduceEqDiff, Int.reduceToNat, Int.reduceBEq, Int.reduceBNe, get_concat, set_concat, tk1, List.getElem?_cons_succ, List.set_cons_succ]
  refine ⟨_, _, Or.inl ((pp _).go _).weakQ, hK _ _ ?_⟩
  clear hK K
  repeat (first
    | (with_reducible refine lops_step fun K hK => ?_; simp (disch := first | omega | (simp only [go_sem, isRow, isFlat, Option.isSome_some]; done) | assumption | (simp only [ints_length, List.length_replicate, List.length_set, List.length_append, List.length_take, List.length_drop, List.length_cons, List.length_nil] <;> omega) | fail) only [go_sem, Nat.reduceAdd, Nat.reduceSub, reduceIte, Nat.reduceEqDiff, Int.reduceToNat, Int.reduceBEq, Int.reduceBNe, one]; (repeat (with_reducible refine And.intro (by first | omega | rfl | assumption | decide) ?_)); (first | (refine hK _ _ ?_) | (refine ⟨_, rfl, hK _ _ ?_⟩) | (refine Or.inr (hK _ _ ?_)) | (refine Or.inr ⟨rfl, hK _ _ ?_⟩) | (refine ⟨_, _, Or.inl ((sm _).go _), (by first | exact ⟨[], (List.append_nil _).symm⟩ | exact ⟨_, rfl⟩), hK _ _ ?_⟩) | (refine ⟨_, _, Or.inl ((sm _).go _), hK _ _ ?_⟩) | (refine ⟨_, _, Or.inl ((sm _).go _).weakQ, hK _ _ ?_⟩)); clear hK K)
    | (with_reducible refine lops_nil ?_)
    | (with_reducible refine lavc_reg ?_)
    | (with_reducible refine lavc_seq ?_)
    | (with_reducible refine lavc_block ?_)
    | (with_reducible refine lavc_skip ?_)
    | (with_reducible refine lavc_exit ?_)
    | (with_reducible refine lavc_ret ?_)
    | (with_reducible refine lavcR_round ?_)
    | (simp only [↓reduceIte, Nat.reduceEqDiff, reduceCtorEq]))
  refine And.intro (by simp) ?_
  simp (disch := first | omega | (simp only [go_sem, isRow, isFlat, Option.isSome_some]; done) | assumption | (simp only [ints_length, List.length_replicate, List.length_set, List.length_append, List.length_take, List.length_drop, List.length_cons, List.length_nil] <;> omega) | fail) only [go_sem, Nat.reduceAdd, Nat.reduceSub, reduceIte, Nat.reduceEqDiff, Int.reduceToNat, Int.reduceBEq, Int.reduceBNe, aret, aretL, aret1, aenv]
  (repeat (with_reducible refine And.intro (by first | omega | rfl | assumption | decide) ?_))
  exact end0 (NR.tup (by intro c hc; simp at hc; rcases hc with rfl | rfl; exact NR.vsl (NR.ints _ _); exact NR.v _)) rfl
open Go.Proofs
open Go.Abs.B
set_option linter.unusedVariables false
set_option linter.unusedSimpArgs false
set_option maxRecDepth 100000
set_option maxHeartbeats 8000000
theorem hash2_p (pw salt : List Int) (c1 c2 : Option Nat) (M Ps n : Nat) (R : Int) (hM : 4 ≤ M ∧ M ≤ 64) (hP : 1 ≤ Ps ∧ Ps ≤ 4) (hn : 1 ≤ n ∧ n ≤ 64) (hp : pw.length ≤ 200) (hs : salt.length ≤ 200) (bp : B8 pw) (bs : B8 salt) :
    PCall Tryd.prog glob 9 [.vsl pw.length (ints .u8 pw) c1, .vsl salt.length (ints .u8 salt) c2, cv M Ps 2 R, iv n] (.tup [.vsl n (ints .u8 (hash2 pw salt M Ps n)) none, iv 0]) := by
  refine PCall.of ctx.nr (List.forall_mem_cons.2 ⟨NR.vsl (NR.ints _ _), List.forall_mem_cons.2 ⟨NR.vsl (NR.ints _ _), List.forall_mem_cons.2 ⟨NR.cv _ _ _ _, List.forall_mem_cons.2 ⟨NR.v _, fun _ h => absurd h List.not_mem_nil⟩⟩⟩⟩) (NR.tup (by intro c hc; simp at hc; rcases hc with rfl | rfl; exact NR.vsl (NR.ints _ _); exact NR.v _)) ?_
  refine lcall9 (by simp) 0 (Nat.le_refl _) ?_
  unfold lc9
  simp only [List.length_cons, List.length_nil, Nat.reduceAdd, Nat.reduceSub, List.replicate_succ, List.replicate_zero, List.cons_append, List.nil_append]
  have gp := Good_p M Ps 2 R
  have hg := goodC_of (L := 2) hM hP ⟨by decide, by decide⟩
  rw [show ((2 : Nat) : Int) = 2 from rfl] at hg
  rw [hg] at gp
  have wp := within_p n 1 64
  rw [decide_eq_true (by omega)] at wp
  have ep := fun cx => eights_p M Ps 2 n 1 cx (by omega) (by omega) (by decide) (by omega) (by decide)
  obtain ⟨F, hF⟩ : ∃ F, firstC pw salt M Ps 2 n = F := ⟨_, rfl⟩
  have hFl : F.length = 64 := by rw [← hF]; exact sumC_length _
  have hF8 : B8 F := by rw [← hF]; exact sumC_b8 _
  have sp := fun cx => sum_p [.vsl 40 (ints .u8 (five M Ps 2 n 1)) none, .vsl pw.length (ints .u8 pw) c1, .vsl salt.length (ints .u8 salt) c2] cx [five M Ps 2 n 1, pw, salt] (Rws.cons (five_length _ _ _ _ _) (Rws.cons rfl (Rws.cons rfl Rws.nil))) (by simp) (fun r hr => by
    have h := five_length M Ps 2 n 1
    simp at hr
    rcases hr with rfl | rfl | rfl <;> omega) (fun r hr => by
    simp at hr
    rcases hr with rfl | rfl | rfl
    · exact five_b8 _ _ _ _ _
    · exact bp
    · exact bs)
  have hFs : sumC [five M Ps 2 n 1, pw, salt] = F := hF
  rw [hFs] at sp
  have fp := fill2_a (Blk.mk [iv M, iv Ps, iv 2, iv R] 0 true 25) M Ps R F hM hFl hF8
  have five5 : ∀ a b c d e : Int, (((((List.replicate 5 (0 : Int)).set 0 a).set 1 b).set 2 c).set 3 d).set 4 e = [a, b, c, d, e] := fun _ _ _ _ _ => rfl
  have three : ∀ x y z : AV, ((((List.replicate 3 (AV.v (Value.slice none 0 0))).set 0 x).set 1 y).set 2 z) = [x, y, z] := fun _ _ _ => rfl
  have spl : ∀ a b c d e w x y z : AV, splice [a, b, c, d, e] 0 [w, x, y, z] = [w, x, y, z, e] := fun _ _ _ _ _ _ _ _ _ => rfl
  repeat (first
    | (with_reducible refine lops_step fun K hK => ?_; simp (disch := first | omega | (simp only [go_sem, isRow, isFlat, Option.isSome_some]; done) | assumption | (simp only [ints_length, List.length_replicate, List.length_set, List.length_append, List.length_take, List.length_drop, List.length_cons, List.length_nil] <;> omega) | fail) only [go_sem, Nat.reduceAdd, Nat.reduceSub, reduceIte, Nat.reduceEqDiff, Int.reduceToNat, Int.reduceBEq, Int.reduceBNe, spl, five5, three]; (repeat (with_reducible refine And.intro (by first | omega | rfl | assumption | decide) ?_)); (first | (refine hK _ _ ?_) | (refine ⟨_, rfl, hK _ _ ?_⟩) | (refine Or.inr (hK _ _ ?_)) | (refine Or.inr ⟨rfl, hK _ _ ?_⟩) | (refine ⟨_, _, Or.inl (gp.go _), (by first | exact ⟨[], (List.append_nil _).symm⟩ | exact ⟨_, rfl⟩), hK _ _ ?_⟩) | (refine ⟨_, _, Or.inl (gp.go _), hK _ _ ?_⟩) | (refine ⟨_, _, Or.inl (gp.go _).weakQ, hK _ _ ?_⟩) | (refine ⟨_, _, Or.inl (wp.go _), (by first | exact ⟨[], (List.append_nil _).symm⟩ | exact ⟨_, rfl⟩), hK _ _ ?_⟩) | (refine ⟨_, _, Or.inl (wp.go _), hK _ _ ?_⟩) | (refine ⟨_, _, Or.inl (wp.go _).weakQ, hK _ _ ?_⟩) | (refine ⟨_, _, Or.inl ((ep _).go _), (by first | exact ⟨[], (List.append_nil _).symm⟩ | exact ⟨_, rfl⟩), hK _ _ ?_⟩) | (refine ⟨_, _, Or.inl ((ep _).go _), hK _ _ ?_⟩) | (refine ⟨_, _, Or.inl ((ep _).go _).weakQ, hK _ _ ?_⟩) | (refine ⟨_, _, Or.inl ((sp _).go _), (by first | exact ⟨[], (List.append_nil _).symm⟩ | exact ⟨_, rfl⟩), hK _ _ ?_⟩) | (refine ⟨_, _, Or.inl ((sp _).go _), hK _ _ ?_⟩) | (refine ⟨_, _, Or.inl ((sp _).go _).weakQ, hK _ _ ?_⟩) | (refine ⟨_, _, Or.inl (fp), (by first | exact ⟨[], (List.append_nil _).symm⟩ | exact ⟨_, rfl⟩), hK _ _ ?_⟩) | (refine ⟨_, _, Or.inl (fp), hK _ _ ?_⟩) | (refine ⟨_, _, Or.inl (fp).weakQ, hK _ _ ?_⟩)); clear hK K)
    | (with_reducible refine lops_nil ?_)
    | (with_reducible refine lavc_reg ?_)
    | (with_reducible refine lavc_seq ?_)
    | (with_reducible refine lavc_block ?_)
    | (with_reducible refine lavc_skip ?_)
    | (with_reducible refine lavc_exit ?_)
    | (with_reducible refine lavc_ret ?_)
    | (with_reducible refine lavcR_round ?_)
    | (simp only [↓reduceIte, Nat.reduceEqDiff, reduceCtorEq]))
  refine lavc_condF rfl ?_
  repeat (first
    | (with_reducible refine lops_step fun K hK => ?_; simp (disch := first | omega | (simp only [go_sem, isRow, isFlat, Option.isSome_some]; done) | assumption | (simp only [ints_length, List.length_replicate, List.length_set, List.length_append, List.length_take, List.length_drop, List.length_cons, List.length_nil] <;> omega) | fail) only [go_sem, Nat.reduceAdd, Nat.reduceSub, reduceIte, Nat.reduceEqDiff, Int.reduceToNat, Int.reduceBEq, Int.reduceBNe, spl, five5, three]; (repeat (with_reducible refine And.intro (by first | omega | rfl | assumption | decide) ?_)); (first | (refine hK _ _ ?_) | (refine ⟨_, rfl, hK _ _ ?_⟩) | (refine Or.inr (hK _ _ ?_)) | (refine Or.inr ⟨rfl, hK _ _ ?_⟩) | (refine ⟨_, _, Or.inl (gp.go _), (by first | exact ⟨[], (List.append_nil _).symm⟩ | exact ⟨_, rfl⟩), hK _ _ ?_⟩) | (refine ⟨_, _, Or.inl (gp.go _), hK _ _ ?_⟩) | (refine ⟨_, _, Or.inl (gp.go _).weakQ, hK _ _ ?_⟩) | (refine ⟨_, _, Or.inl (wp.go _), (by first | exact ⟨[], (List.append_nil _).symm⟩ | exact ⟨_, rfl⟩), hK _ _ ?_⟩) | (refine ⟨_, _, Or.inl (wp.go _), hK _ _ ?_⟩) | (refine ⟨_, _, Or.inl (wp.go _).weakQ, hK _ _ ?_⟩) | (refine ⟨_, _, Or.inl ((ep _).go _), (by first | exact ⟨[], (List.append_nil _).symm⟩ | exact ⟨_, rfl⟩), hK _ _ ?_⟩) | (refine ⟨_, _, Or.inl ((ep _).go _), hK _ _ ?_⟩) | (refine ⟨_, _, Or.inl ((ep _).go _).weakQ, hK _ _ ?_⟩) | (refine ⟨_, _, Or.inl ((sp _).go _), (by first | exact ⟨[], (List.append_nil _).symm⟩ | exact ⟨_, rfl⟩), hK _ _ ?_⟩) | (refine ⟨_, _, Or.inl ((sp _).go _), hK _ _ ?_⟩) | (refine ⟨_, _, Or.inl ((sp _).go _).weakQ, hK _ _ ?_⟩) | (refine ⟨_, _, Or.inl (fp), (by first | exact ⟨[], (List.append_nil _).symm⟩ | exact ⟨_, rfl⟩), hK _ _ ?_⟩) | (refine ⟨_, _, Or.inl (fp), hK _ _ ?_⟩) | (refine ⟨_, _, Or.inl (fp).weakQ, hK _ _ ?_⟩)); clear hK K)
    | (with_reducible refine lops_nil ?_)
    | (with_reducible refine lavc_reg ?_)
    | (with_reducible refine lavc_seq ?_)
    | (with_reducible refine lavc_block ?_)
    | (with_reducible refine lavc_skip ?_)
    | (with_reducible refine lavc_exit ?_)
    | (with_reducible refine lavc_ret ?_)
    | (with_reducible refine lavcR_round ?_)
    | (simp only [↓reduceIte, Nat.reduceEqDiff, reduceCtorEq]))
  have i1 : IntKind.i64.wrap (0 + 1) = 1 := by decide
  have i2 : IntKind.i64.wrap (1 + 1) = 2 := by decide
  refine lavc_loopM ms9_0 (fun m (x : Nat × AHeap) => m + x.1 = Ps) (fun x => [(55, iv x.1)]) (fun x => mem2 M Ps R (stage2 F M x.1) x.2) Ps (0, []) (by omega) ?_ ?_ ?_
  · simp only [ms9_0, putAll, blank, List.foldl_cons, List.foldl_nil, List.set_cons_succ, List.set_cons_zero, List.cons_append, List.nil_append, ALe, true_or, or_true, and_true, true_and, eq_self, reduceCtorEq, false_or]
    rfl
  · rfl
  rintro m ⟨p, gg⟩ hpm
  simp only at hpm ⊢
  simp only [ms9_0, putAll, blank, List.foldl_cons, List.foldl_nil, List.set_cons_succ, List.set_cons_zero, List.cons_append, List.nil_append]
  have hst := stage2_ok F M (by omega) p
  repeat (first
    | (with_reducible refine lops_step fun K hK => ?_; simp (disch := first | omega | (simp only [go_sem, isRow, isFlat, Option.isSome_some]; done) | assumption | (simp only [ints_length, List.length_replicate, List.length_set, List.length_append, List.length_take, List.length_drop, List.length_cons, List.length_nil] <;> omega) | fail) only [go_sem, Nat.reduceAdd, Nat.reduceSub, reduceIte, Nat.reduceEqDiff, Int.reduceToNat, Int.reduceBEq, Int.reduceBNe]; (repeat (with_reducible refine And.intro (by first | omega | rfl | assumption | decide) ?_)); (first | (refine hK _ _ ?_) | (refine ⟨_, rfl, hK _ _ ?_⟩) | (refine Or.inl (hK _ _ ?_))); clear hK K)
    | (with_reducible refine lops_nil ?_)
    | (with_reducible refine lavc_reg ?_)
    | (with_reducible refine lavc_seq ?_)
    | (with_reducible refine lavc_block ?_)
    | (with_reducible refine lavc_skip ?_)
    | (with_reducible refine lavc_exit ?_)
    | (with_reducible refine lavc_ret ?_)
    | (with_reducible refine lavcR_round ?_)
    | (simp only [↓reduceIte, Nat.reduceEqDiff, reduceCtorEq]))
  refine lavc_cond rfl (fun hc => ?_) (fun hc => ?_) <;> try simp only [decide_eq_true_eq, decide_eq_false_iff_not, Int.not_lt, Int.not_le, beq_iff_eq, bne_iff_ne, bne_eq_false_iff_eq, beq_eq_false_iff_ne, ne_eq, Bool.not_eq_true', Bool.not_eq_false'] at hc
  · have hpe := i64n ((p : Int) + 1) (p + 1) (by omega) (by omega)
    by_cases h0 : p = 0
    · subst h0
      have z0 : (((0 : Nat) : Int) == 0) = true := rfl
      have c0 : ((0 : Nat) : Int) = 0 := rfl
      have c1 : ((1 : Nat) : Int) = 1 := rfl
      repeat (first
        | (with_reducible refine lops_step fun K hK => ?_; simp (disch := first | omega | (simp only [go_sem, isRow, isFlat, Option.isSome_some]; done) | assumption | (simp only [ints_length, List.length_replicate, List.length_set, List.length_append, List.length_take, List.length_drop, List.length_cons, List.length_nil] <;> omega) | fail) only [go_sem, Nat.reduceAdd, Nat.reduceSub, reduceIte, Nat.reduceEqDiff, Int.reduceToNat, Int.reduceBEq, Int.reduceBNe, mem2]; (try (first | (refine And.intro (fun _ => ?_) (fun h => absurd h (by decide))) | (refine And.intro (fun h => absurd h (by decide)) (fun _ => ?_)))); (repeat (with_reducible refine And.intro (by first | omega | rfl | assumption | decide) ?_)); (first | (refine hK _ _ ?_) | (refine ⟨_, rfl, hK _ _ ?_⟩) | (refine Or.inl (hK _ _ ?_))); clear hK K)
        | (with_reducible refine lops_nil ?_)
        | (with_reducible refine lavc_reg ?_)
        | (with_reducible refine lavc_seq ?_)
        | (with_reducible refine lavc_block ?_)
        | (with_reducible refine lavc_skip ?_)
        | (with_reducible refine lavc_exit ?_)
        | (with_reducible refine lavc_ret ?_)
        | (with_reducible refine lavcR_round ?_)
        | (refine lavc_cond rfl (fun _ => ?_) (fun hc => absurd hc (by decide)))
        | (refine lavc_cond rfl (fun hc => absurd hc (by decide)) (fun _ => ?_))
        | (simp only [↓reduceIte, Nat.reduceEqDiff, reduceCtorEq]))
      refine lavc_rounds 3 ?_
      repeat (first
        | (with_reducible refine lops_step fun K hK => ?_; simp (disch := first | omega | (simp only [go_sem, isRow, isFlat, Option.isSome_some]; done) | assumption | (simp only [ints_length, List.length_replicate, List.length_set, List.length_append, List.length_take, List.length_drop, List.length_cons, List.length_nil] <;> omega) | fail) only [go_sem, Nat.reduceAdd, Nat.reduceSub, reduceIte, Nat.reduceEqDiff, Int.reduceToNat, Int.reduceBEq, Int.reduceBNe, mem2, z0, i1]; (try (first | (refine And.intro (fun _ => ?_) (fun h => absurd h (by decide))) | (refine And.intro (fun h => absurd h (by decide)) (fun _ => ?_)))); (repeat (with_reducible refine And.intro (by first | omega | rfl | assumption | decide) ?_)); (first | (refine hK _ _ ?_) | (refine ⟨_, rfl, hK _ _ ?_⟩) | (refine Or.inl (hK _ _ ?_))); clear hK K)
        | (with_reducible refine lops_nil ?_)
        | (with_reducible refine lavc_reg ?_)
        | (with_reducible refine lavc_seq ?_)
        | (with_reducible refine lavc_block ?_)
        | (with_reducible refine lavc_skip ?_)
        | (with_reducible refine lavc_exit ?_)
        | (with_reducible refine lavc_ret ?_)
        | (with_reducible refine lavcR_round ?_)
        | (refine lavc_cond rfl (fun _ => ?_) (fun hc => absurd hc (by decide)))
        | (refine lavc_cond rfl (fun hc => absurd hc (by decide)) (fun _ => ?_))
        | (simp only [↓reduceIte, Nat.reduceEqDiff, reduceCtorEq]))
      refine lavc_loopM ms9_2 (fun m (i : Nat) => m + i = M ∧ 2 ≤ i) (fun i => [(14, iv i)]) (fun i => mem2 M Ps R (cgrows (i - 2) (start F 0), start F 1) gg) (M - 2) 2 ⟨by omega, by omega⟩ ?_ ?_ ?_
      · simp only [ms9_2, putAll, blank, List.foldl_cons, List.foldl_nil, List.set_cons_succ, List.set_cons_zero, List.cons_append, List.nil_append, ALe, true_or, or_true, and_true, true_and, eq_self, reduceCtorEq, false_or]
        rfl
      · rfl
      rintro m' i ⟨hi, hi2⟩
      simp only [ms9_2, putAll, blank, List.foldl_cons, List.foldl_nil, List.set_cons_succ, List.set_cons_zero, List.cons_append, List.nil_append]
      have hie := i64n ((i : Int) + 1) (i + 1) (by omega) (by omega)
      have hcl : (cgrows (i - 2) (start F 0)).length = i := by rw [cgrows_len]; show 2 + (i - 2) = i; omega
      repeat (first
        | (with_reducible refine lops_step fun K hK => ?_; simp (disch := first | omega | (simp only [go_sem, isRow, isFlat, Option.isSome_some]; done) | assumption | (simp only [ints_length, List.length_replicate, List.length_set, List.length_append, List.length_take, List.length_drop, List.length_cons, List.length_nil] <;> omega) | fail) only [go_sem, Nat.reduceAdd, Nat.reduceSub, reduceIte, Nat.reduceEqDiff, Int.reduceToNat, Int.reduceBEq, Int.reduceBNe, mem2]; (repeat (with_reducible refine And.intro (by first | omega | rfl | assumption | decide) ?_)); (first | (refine hK _ _ ?_) | (refine ⟨_, rfl, hK _ _ ?_⟩) | (refine Or.inl (hK _ _ ?_))); clear hK K)
        | (with_reducible refine lops_nil ?_)
        | (with_reducible refine lavc_reg ?_)
        | (with_reducible refine lavc_seq ?_)
        | (with_reducible refine lavc_block ?_)
        | (with_reducible refine lavc_skip ?_)
        | (with_reducible refine lavc_exit ?_)
        | (with_reducible refine lavc_ret ?_)
        | (with_reducible refine lavcR_round ?_)
        | (simp only [↓reduceIte, Nat.reduceEqDiff, reduceCtorEq]))
      refine lavc_cond rfl (fun hc => ?_) (fun hc => ?_) <;> try simp only [decide_eq_true_eq, decide_eq_false_iff_not, Int.not_lt, Int.not_le, beq_iff_eq, bne_iff_ne, bne_eq_false_iff_eq, beq_eq_false_iff_ne, ne_eq, Bool.not_eq_true', Bool.not_eq_false'] at hc
      · have stp := step_first20 M Ps R (cgrows (i - 2) (start F 0)) (start F 1) gg hM (cgrows_g _ (start_g F 0)) (by omega) (by omega)
        rw [hcl] at stp
        unfold mem2 at stp
        repeat (first
          | (with_reducible refine lops_step fun K hK => ?_; simp (disch := first | omega | (simp only [go_sem, isRow, isFlat, Option.isSome_some]; done) | assumption | (simp only [ints_length, List.length_replicate, List.length_set, List.length_append, List.length_take, List.length_drop, List.length_cons, List.length_nil] <;> omega) | fail) only [go_sem, Nat.reduceAdd, Nat.reduceSub, reduceIte, Nat.reduceEqDiff, Int.reduceToNat, Int.reduceBEq, Int.reduceBNe, mem2, hie, c0]; (repeat (with_reducible refine And.intro (by first | omega | rfl | assumption | decide) ?_)); (first | (refine hK _ _ ?_) | (refine ⟨_, rfl, hK _ _ ?_⟩) | (refine Or.inl (hK _ _ ?_)) | (refine ⟨_, _, Or.inl (stp), (by first | exact ⟨[], (List.append_nil _).symm⟩ | exact ⟨_, rfl⟩), hK _ _ ?_⟩) | (refine ⟨_, _, Or.inl (stp), hK _ _ ?_⟩) | (refine ⟨_, _, Or.inl (stp).weakQ, hK _ _ ?_⟩)); clear hK K)
          | (with_reducible refine lops_nil ?_)
          | (with_reducible refine lavc_reg ?_)
          | (with_reducible refine lavc_seq ?_)
          | (with_reducible refine lavc_block ?_)
          | (with_reducible refine lavc_skip ?_)
          | (with_reducible refine lavc_exit ?_)
          | (with_reducible refine lavc_ret ?_)
          | (with_reducible refine lavcR_round ?_)
          | (simp only [↓reduceIte, Nat.reduceEqDiff, reduceCtorEq]))
        refine ⟨m' - 1, i + 1, by omega, ⟨by omega, by omega⟩, ?_, ?_⟩
        · simp only [ms9_2, putAll, blank, List.foldl_cons, List.foldl_nil, List.set_cons_succ, List.set_cons_zero, List.cons_append, List.nil_append, ALe, true_or, or_true, and_true, true_and, eq_self, reduceCtorEq, false_or]
          exact ⟨rfl, rfl, rfl, rfl, rfl⟩
        · obtain ⟨k, rfl⟩ : ∃ k, i = k + 2 := ⟨i - 2, by omega⟩
          rfl
      obtain rfl : i = M := by omega
      repeat (first
        | (with_reducible refine lops_step fun K hK => ?_; simp (disch := first | omega | (simp only [go_sem, isRow, isFlat, Option.isSome_some]; done) | assumption | (simp only [ints_length, List.length_replicate, List.length_set, List.length_append, List.length_take, List.length_drop, List.length_cons, List.length_nil] <;> omega) | fail) only [go_sem, Nat.reduceAdd, Nat.reduceSub, reduceIte, Nat.reduceEqDiff, Int.reduceToNat, Int.reduceBEq, Int.reduceBNe, mem2, i1, i2, z0]; (try (first | (refine And.intro (fun _ => ?_) (fun h => absurd h (by decide))) | (refine And.intro (fun h => absurd h (by decide)) (fun _ => ?_)))); (repeat (with_reducible refine And.intro (by first | omega | rfl | assumption | decide) ?_)); (first | (refine hK _ _ ?_) | (refine ⟨_, rfl, hK _ _ ?_⟩) | (refine Or.inl (hK _ _ ?_))); clear hK K)
        | (with_reducible refine lops_nil ?_)
        | (with_reducible refine lavc_reg ?_)
        | (with_reducible refine lavc_seq ?_)
        | (with_reducible refine lavc_block ?_)
        | (with_reducible refine lavc_skip ?_)
        | (with_reducible refine lavc_exit ?_)
        | (with_reducible refine lavc_ret ?_)
        | (with_reducible refine lavcR_round ?_)
        | (refine lavc_cond rfl (fun _ => ?_) (fun hc => absurd hc (by decide)))
        | (refine lavc_cond rfl (fun hc => absurd hc (by decide)) (fun _ => ?_))
        | (simp only [↓reduceIte, Nat.reduceEqDiff, reduceCtorEq]))
      refine lavc_loopM ms9_2 (fun m (j : Nat) => m + j = i ∧ 2 ≤ j) (fun j => [(14, iv j)]) (fun j => mem2 i Ps R (cgrows (i - 2) (start F 0), cgrows (j - 2) (start F 1)) gg) (i - 2) 2 ⟨by omega, by omega⟩ ?_ ?_ ?_
      · simp only [ms9_2, putAll, blank, List.foldl_cons, List.foldl_nil, List.set_cons_succ, List.set_cons_zero, List.cons_append, List.nil_append, ALe, true_or, or_true, and_true, true_and, eq_self, reduceCtorEq, false_or]
        rfl
      · rfl
      rintro m2 j ⟨hj, hj2⟩
      simp only [ms9_2, putAll, blank, List.foldl_cons, List.foldl_nil, List.set_cons_succ, List.set_cons_zero, List.cons_append, List.nil_append]
      have hje := i64n ((j : Int) + 1) (j + 1) (by omega) (by omega)
      have hcl2 : (cgrows (j - 2) (start F 1)).length = j := by rw [cgrows_len]; show 2 + (j - 2) = j; omega
      repeat (first
        | (with_reducible refine lops_step fun K hK => ?_; simp (disch := first | omega | (simp only [go_sem, isRow, isFlat, Option.isSome_some]; done) | assumption | (simp only [ints_length, List.length_replicate, List.length_set, List.length_append, List.length_take, List.length_drop, List.length_cons, List.length_nil] <;> omega) | fail) only [go_sem, Nat.reduceAdd, Nat.reduceSub, reduceIte, Nat.reduceEqDiff, Int.reduceToNat, Int.reduceBEq, Int.reduceBNe, mem2]; (repeat (with_reducible refine And.intro (by first | omega | rfl | assumption | decide) ?_)); (first | (refine hK _ _ ?_) | (refine ⟨_, rfl, hK _ _ ?_⟩) | (refine Or.inl (hK _ _ ?_))); clear hK K)
        | (with_reducible refine lops_nil ?_)
        | (with_reducible refine lavc_reg ?_)
        | (with_reducible refine lavc_seq ?_)
        | (with_reducible refine lavc_block ?_)
        | (with_reducible refine lavc_skip ?_)
        | (with_reducible refine lavc_exit ?_)
        | (with_reducible refine lavc_ret ?_)
        | (with_reducible refine lavcR_round ?_)
        | (simp only [↓reduceIte, Nat.reduceEqDiff, reduceCtorEq]))
      refine lavc_cond rfl (fun hc => ?_) (fun hc => ?_) <;> try simp only [decide_eq_true_eq, decide_eq_false_iff_not, Int.not_lt, Int.not_le, beq_iff_eq, bne_iff_ne, bne_eq_false_iff_eq, beq_eq_false_iff_ne, ne_eq, Bool.not_eq_true', Bool.not_eq_false'] at hc
      · have stp := step_first21 i Ps R (cgrows (i - 2) (start F 0)) (cgrows (j - 2) (start F 1)) gg hM (cgrows_g _ (start_g F 1)) (by omega) (by omega)
        rw [hcl2] at stp
        unfold mem2 at stp
        repeat (first
          | (with_reducible refine lops_step fun K hK => ?_; simp (disch := first | omega | (simp only [go_sem, isRow, isFlat, Option.isSome_some]; done) | assumption | (simp only [ints_length, List.length_replicate, List.length_set, List.length_append, List.length_take, List.length_drop, List.length_cons, List.length_nil] <;> omega) | fail) only [go_sem, Nat.reduceAdd, Nat.reduceSub, reduceIte, Nat.reduceEqDiff, Int.reduceToNat, Int.reduceBEq, Int.reduceBNe, mem2, hje, c0, c1]; (repeat (with_reducible refine And.intro (by first | omega | rfl | assumption | decide) ?_)); (first | (refine hK _ _ ?_) | (refine ⟨_, rfl, hK _ _ ?_⟩) | (refine Or.inl (hK _ _ ?_)) | (refine ⟨_, _, Or.inl (stp), (by first | exact ⟨[], (List.append_nil _).symm⟩ | exact ⟨_, rfl⟩), hK _ _ ?_⟩) | (refine ⟨_, _, Or.inl (stp), hK _ _ ?_⟩) | (refine ⟨_, _, Or.inl (stp).weakQ, hK _ _ ?_⟩)); clear hK K)
          | (with_reducible refine lops_nil ?_)
          | (with_reducible refine lavc_reg ?_)
          | (with_reducible refine lavc_seq ?_)
          | (with_reducible refine lavc_block ?_)
          | (with_reducible refine lavc_skip ?_)
          | (with_reducible refine lavc_exit ?_)
          | (with_reducible refine lavc_ret ?_)
          | (with_reducible refine lavcR_round ?_)
          | (simp only [↓reduceIte, Nat.reduceEqDiff, reduceCtorEq]))
        refine ⟨m2 - 1, j + 1, by omega, ⟨by omega, by omega⟩, ?_, ?_⟩
        · simp only [ms9_2, putAll, blank, List.foldl_cons, List.foldl_nil, List.set_cons_succ, List.set_cons_zero, List.cons_append, List.nil_append, ALe, true_or, or_true, and_true, true_and, eq_self, reduceCtorEq, false_or]
          exact ⟨rfl, rfl, rfl, rfl, rfl⟩
        · obtain ⟨k, rfl⟩ : ∃ k, j = k + 2 := ⟨j - 2, by omega⟩
          rfl
      obtain rfl : j = i := by omega
      repeat (first
        | (with_reducible refine lops_step fun K hK => ?_; simp (disch := first | omega | (simp only [go_sem, isRow, isFlat, Option.isSome_some]; done) | assumption | (simp only [ints_length, List.length_replicate, List.length_set, List.length_append, List.length_take, List.length_drop, List.length_cons, List.length_nil] <;> omega) | fail) only [go_sem, Nat.reduceAdd, Nat.reduceSub, reduceIte, Nat.reduceEqDiff, Int.reduceToNat, Int.reduceBEq, Int.reduceBNe, mem2, i1, i2, hpe]; (try (first | (refine And.intro (fun _ => ?_) (fun h => absurd h (by decide))) | (refine And.intro (fun h => absurd h (by decide)) (fun _ => ?_)))); (repeat (with_reducible refine And.intro (by first | omega | rfl | assumption | decide) ?_)); (first | (refine hK _ _ ?_) | (refine ⟨_, rfl, hK _ _ ?_⟩) | (refine Or.inl (hK _ _ ?_))); clear hK K)
        | (with_reducible refine lops_nil ?_)
        | (with_reducible refine lavc_reg ?_)
        | (with_reducible refine lavc_seq ?_)
        | (with_reducible refine lavc_block ?_)
        | (with_reducible refine lavc_skip ?_)
        | (with_reducible refine lavc_exit ?_)
        | (with_reducible refine lavc_ret ?_)
        | (with_reducible refine lavcR_round ?_)
        | (refine lavc_cond rfl (fun _ => ?_) (fun hc => absurd hc (by decide)))
        | (refine lavc_cond rfl (fun hc => absurd hc (by decide)) (fun _ => ?_))
        | (simp only [↓reduceIte, Nat.reduceEqDiff, reduceCtorEq]))
      refine ⟨m - 1, (1, gg), by omega, by show m - 1 + 1 = Ps; omega, ?_, ?_⟩
      · simp only [ms9_0, putAll, blank, List.foldl_cons, List.foldl_nil, List.set_cons_succ, List.set_cons_zero, List.cons_append, List.nil_append, ALe, true_or, or_true, and_true, true_and, eq_self, reduceCtorEq, false_or]
      · rfl
    · obtain ⟨p', rfl⟩ : ∃ p', p = p' + 1 := ⟨p - 1, by omega⟩
      have hlen := (stage2_ok F M (by omega) p').2.2
      obtain ⟨S, hS⟩ : ∃ S, stage2 F M (p' + 1) = S := ⟨_, rfl⟩
      have hnx : stage2 F M (p' + 1 + 1) = turns 2 M 1 M (turns 2 M 0 M S) := by rw [← hS]; rfl
      rw [hS] at hst hlen ⊢
      have zp : ((((p' + 1 : Nat) : Int) : Int) == 0) = false := by rw [beq_eq_false_iff_ne, ne_eq]; omega
      have c0 : ((0 : Nat) : Int) = 0 := rfl
      have c1 : ((1 : Nat) : Int) = 1 := rfl
      repeat (first
        | (with_reducible refine lops_step fun K hK => ?_; simp (disch := first | omega | (simp only [go_sem, isRow, isFlat, Option.isSome_some]; done) | assumption | (simp only [ints_length, List.length_replicate, List.length_set, List.length_append, List.length_take, List.length_drop, List.length_cons, List.length_nil] <;> omega) | fail) only [go_sem, Nat.reduceAdd, Nat.reduceSub, reduceIte, Nat.reduceEqDiff, Int.reduceToNat, Int.reduceBEq, Int.reduceBNe, mem2]; (try (first | (refine And.intro (fun _ => ?_) (fun h => absurd h (by decide))) | (refine And.intro (fun h => absurd h (by decide)) (fun _ => ?_)))); (repeat (with_reducible refine And.intro (by first | omega | rfl | assumption | decide) ?_)); (first | (refine hK _ _ ?_) | (refine ⟨_, rfl, hK _ _ ?_⟩) | (refine Or.inl (hK _ _ ?_))); clear hK K)
        | (with_reducible refine lops_nil ?_)
        | (with_reducible refine lavc_reg ?_)
        | (with_reducible refine lavc_seq ?_)
        | (with_reducible refine lavc_block ?_)
        | (with_reducible refine lavc_skip ?_)
        | (with_reducible refine lavc_exit ?_)
        | (with_reducible refine lavc_ret ?_)
        | (with_reducible refine lavcR_round ?_)
        | (refine lavc_cond rfl (fun _ => ?_) (fun hc => absurd hc (by decide)))
        | (refine lavc_cond rfl (fun hc => absurd hc (by decide)) (fun _ => ?_))
        | (simp only [↓reduceIte, Nat.reduceEqDiff, reduceCtorEq]))
      refine lavc_rounds 3 ?_
      repeat (first
        | (with_reducible refine lops_step fun K hK => ?_; simp (disch := first | omega | (simp only [go_sem, isRow, isFlat, Option.isSome_some]; done) | assumption | (simp only [ints_length, List.length_replicate, List.length_set, List.length_append, List.length_take, List.length_drop, List.length_cons, List.length_nil] <;> omega) | fail) only [go_sem, Nat.reduceAdd, Nat.reduceSub, reduceIte, Nat.reduceEqDiff, Int.reduceToNat, Int.reduceBEq, Int.reduceBNe, mem2, zp, i1]; (try (first | (refine And.intro (fun _ => ?_) (fun h => absurd h (by decide))) | (refine And.intro (fun h => absurd h (by decide)) (fun _ => ?_)))); (repeat (with_reducible refine And.intro (by first | omega | rfl | assumption | decide) ?_)); (first | (refine hK _ _ ?_) | (refine ⟨_, rfl, hK _ _ ?_⟩) | (refine Or.inl (hK _ _ ?_))); clear hK K)
        | (with_reducible refine lops_nil ?_)
        | (with_reducible refine lavc_reg ?_)
        | (with_reducible refine lavc_seq ?_)
        | (with_reducible refine lavc_block ?_)
        | (with_reducible refine lavc_skip ?_)
        | (with_reducible refine lavc_exit ?_)
        | (with_reducible refine lavc_ret ?_)
        | (with_reducible refine lavcR_round ?_)
        | (refine lavc_cond rfl (fun _ => ?_) (fun hc => absurd hc (by decide)))
        | (refine lavc_cond rfl (fun hc => absurd hc (by decide)) (fun _ => ?_))
        | (simp only [↓reduceIte, Nat.reduceEqDiff, reduceCtorEq]))
      refine lavc_loopM ms9_2 (fun m (x : Nat × AHeap) => m + x.1 = M) (fun x => [(14, iv x.1)]) (fun x => mem2 M Ps R (turns 2 M 0 x.1 S) x.2) M (0, gg) (by omega) ?_ ?_ ?_
      · simp only [ms9_2, putAll, blank, List.foldl_cons, List.foldl_nil, List.set_cons_succ, List.set_cons_zero, List.cons_append, List.nil_append, ALe, true_or, or_true, and_true, true_and, eq_self, reduceCtorEq, false_or]
        rfl
      · rfl
      rintro m' ⟨i, g2⟩ hi
      simp only at hi ⊢
      simp only [ms9_2, putAll, blank, List.foldl_cons, List.foldl_nil, List.set_cons_succ, List.set_cons_zero, List.cons_append, List.nil_append]
      have hie := i64n ((i : Int) + 1) (i + 1) (by omega) (by omega)
      have hsl := turns_len 2 M 0 i S
      have hsg := turns_g 2 M 0 i S hst.1 hst.2.1
      repeat (first
        | (with_reducible refine lops_step fun K hK => ?_; simp (disch := first | omega | (simp only [go_sem, isRow, isFlat, Option.isSome_some]; done) | assumption | (simp only [ints_length, List.length_replicate, List.length_set, List.length_append, List.length_take, List.length_drop, List.length_cons, List.length_nil] <;> omega) | fail) only [go_sem, Nat.reduceAdd, Nat.reduceSub, reduceIte, Nat.reduceEqDiff, Int.reduceToNat, Int.reduceBEq, Int.reduceBNe, mem2]; (repeat (with_reducible refine And.intro (by first | omega | rfl | assumption | decide) ?_)); (first | (refine hK _ _ ?_) | (refine ⟨_, rfl, hK _ _ ?_⟩) | (refine Or.inl (hK _ _ ?_))); clear hK K)
        | (with_reducible refine lops_nil ?_)
        | (with_reducible refine lavc_reg ?_)
        | (with_reducible refine lavc_seq ?_)
        | (with_reducible refine lavc_block ?_)
        | (with_reducible refine lavc_skip ?_)
        | (with_reducible refine lavc_exit ?_)
        | (with_reducible refine lavc_ret ?_)
        | (with_reducible refine lavcR_round ?_)
        | (simp only [↓reduceIte, Nat.reduceEqDiff, reduceCtorEq]))
      refine lavc_cond rfl (fun hc => ?_) (fun hc => ?_) <;> try simp only [decide_eq_true_eq, decide_eq_false_iff_not, Int.not_lt, Int.not_le, beq_iff_eq, bne_iff_ne, bne_eq_false_iff_eq, beq_eq_false_iff_ne, ne_eq, Bool.not_eq_true', Bool.not_eq_false'] at hc
      · obtain ⟨x, stp⟩ := step_later2 M Ps (p' + 1) 0 i R (turns 2 M 0 i S) g2 hM hsg.1 hsg.2 (by omega) (by omega) (by omega) (by omega) (by omega)
        have hnt : turn 2 M (turns 2 M 0 i S) 0 i = turns 2 M 0 (i + 1) S := rfl
        rw [hnt] at stp
        unfold mem2 at stp
        repeat (first
          | (with_reducible refine lops_step fun K hK => ?_; simp (disch := first | omega | (simp only [go_sem, isRow, isFlat, Option.isSome_some]; done) | assumption | (simp only [ints_length, List.length_replicate, List.length_set, List.length_append, List.length_take, List.length_drop, List.length_cons, List.length_nil] <;> omega) | fail) only [go_sem, Nat.reduceAdd, Nat.reduceSub, reduceIte, Nat.reduceEqDiff, Int.reduceToNat, Int.reduceBEq, Int.reduceBNe, mem2, hie, c0]; (repeat (with_reducible refine And.intro (by first | omega | rfl | assumption | decide) ?_)); (first | (refine hK _ _ ?_) | (refine ⟨_, rfl, hK _ _ ?_⟩) | (refine Or.inl (hK _ _ ?_)) | (refine ⟨_, _, Or.inl (stp), (by first | exact ⟨[], (List.append_nil _).symm⟩ | exact ⟨_, rfl⟩), hK _ _ ?_⟩) | (refine ⟨_, _, Or.inl (stp), hK _ _ ?_⟩) | (refine ⟨_, _, Or.inl (stp).weakQ, hK _ _ ?_⟩)); clear hK K)
          | (with_reducible refine lops_nil ?_)
          | (with_reducible refine lavc_reg ?_)
          | (with_reducible refine lavc_seq ?_)
          | (with_reducible refine lavc_block ?_)
          | (with_reducible refine lavc_skip ?_)
          | (with_reducible refine lavc_exit ?_)
          | (with_reducible refine lavc_ret ?_)
          | (with_reducible refine lavcR_round ?_)
          | (simp only [↓reduceIte, Nat.reduceEqDiff, reduceCtorEq]))
        refine ⟨m' - 1, (i + 1, g2 ++ [x]), by omega, by show m' - 1 + (i + 1) = M; omega, ?_, ?_⟩
        · simp only [ms9_2, putAll, blank, List.foldl_cons, List.foldl_nil, List.set_cons_succ, List.set_cons_zero, List.cons_append, List.nil_append, ALe, true_or, or_true, and_true, true_and, eq_self, reduceCtorEq, false_or]
        · rfl
      obtain rfl : i = M := by omega
      repeat (first
        | (with_reducible refine lops_step fun K hK => ?_; simp (disch := first | omega | (simp only [go_sem, isRow, isFlat, Option.isSome_some]; done) | assumption | (simp only [ints_length, List.length_replicate, List.length_set, List.length_append, List.length_take, List.length_drop, List.length_cons, List.length_nil] <;> omega) | fail) only [go_sem, Nat.reduceAdd, Nat.reduceSub, reduceIte, Nat.reduceEqDiff, Int.reduceToNat, Int.reduceBEq, Int.reduceBNe, mem2, i1, i2, zp]; (try (first | (refine And.intro (fun _ => ?_) (fun h => absurd h (by decide))) | (refine And.intro (fun h => absurd h (by decide)) (fun _ => ?_)))); (repeat (with_reducible refine And.intro (by first | omega | rfl | assumption | decide) ?_)); (first | (refine hK _ _ ?_) | (refine ⟨_, rfl, hK _ _ ?_⟩) | (refine Or.inl (hK _ _ ?_))); clear hK K)
        | (with_reducible refine lops_nil ?_)
        | (with_reducible refine lavc_reg ?_)
        | (with_reducible refine lavc_seq ?_)
        | (with_reducible refine lavc_block ?_)
        | (with_reducible refine lavc_skip ?_)
        | (with_reducible refine lavc_exit ?_)
        | (with_reducible refine lavc_ret ?_)
        | (with_reducible refine lavcR_round ?_)
        | (refine lavc_cond rfl (fun _ => ?_) (fun hc => absurd hc (by decide)))
        | (refine lavc_cond rfl (fun hc => absurd hc (by decide)) (fun _ => ?_))
        | (simp only [↓reduceIte, Nat.reduceEqDiff, reduceCtorEq]))
      refine lavc_loopM ms9_2 (fun m (x : Nat × AHeap) => m + x.1 = i) (fun x => [(14, iv x.1)]) (fun x => mem2 i Ps R (turns 2 i 1 x.1 (turns 2 i 0 i S)) x.2) i (0, g2) (by omega) ?_ ?_ ?_
      · simp only [ms9_2, putAll, blank, List.foldl_cons, List.foldl_nil, List.set_cons_succ, List.set_cons_zero, List.cons_append, List.nil_append, ALe, true_or, or_true, and_true, true_and, eq_self, reduceCtorEq, false_or]
        rfl
      · rfl
      rintro m2 ⟨j, g3⟩ hj
      simp only at hj ⊢
      simp only [ms9_2, putAll, blank, List.foldl_cons, List.foldl_nil, List.set_cons_succ, List.set_cons_zero, List.cons_append, List.nil_append]
      have hje := i64n ((j : Int) + 1) (j + 1) (by omega) (by omega)
      have hsl2 := turns_len 2 i 1 j (turns 2 i 0 i S)
      have hsg2 := turns_g 2 i 1 j (turns 2 i 0 i S) hsg.1 hsg.2
      repeat (first
        | (with_reducible refine lops_step fun K hK => ?_; simp (disch := first | omega | (simp only [go_sem, isRow, isFlat, Option.isSome_some]; done) | assumption | (simp only [ints_length, List.length_replicate, List.length_set, List.length_append, List.length_take, List.length_drop, List.length_cons, List.length_nil] <;> omega) | fail) only [go_sem, Nat.reduceAdd, Nat.reduceSub, reduceIte, Nat.reduceEqDiff, Int.reduceToNat, Int.reduceBEq, Int.reduceBNe, mem2]; (repeat (with_reducible refine And.intro (by first | omega | rfl | assumption | decide) ?_)); (first | (refine hK _ _ ?_) | (refine ⟨_, rfl, hK _ _ ?_⟩) | (refine Or.inl (hK _ _ ?_))); clear hK K)
        | (with_reducible refine lops_nil ?_)
        | (with_reducible refine lavc_reg ?_)
        | (with_reducible refine lavc_seq ?_)
        | (with_reducible refine lavc_block ?_)
        | (with_reducible refine lavc_skip ?_)
        | (with_reducible refine lavc_exit ?_)
        | (with_reducible refine lavc_ret ?_)
        | (with_reducible refine lavcR_round ?_)
        | (simp only [↓reduceIte, Nat.reduceEqDiff, reduceCtorEq]))
      refine lavc_cond rfl (fun hc => ?_) (fun hc => ?_) <;> try simp only [decide_eq_true_eq, decide_eq_false_iff_not, Int.not_lt, Int.not_le, beq_iff_eq, bne_iff_ne, bne_eq_false_iff_eq, beq_eq_false_iff_ne, ne_eq, Bool.not_eq_true', Bool.not_eq_false'] at hc
      · obtain ⟨x, stp⟩ := step_later2 i Ps (p' + 1) 1 j R (turns 2 i 1 j (turns 2 i 0 i S)) g3 hM hsg2.1 hsg2.2 (by omega) (by omega) (by omega) (by omega) (by omega)
        have hnt : turn 2 i (turns 2 i 1 j (turns 2 i 0 i S)) 1 j = turns 2 i 1 (j + 1) (turns 2 i 0 i S) := rfl
        rw [hnt] at stp
        unfold mem2 at stp
        repeat (first
          | (with_reducible refine lops_step fun K hK => ?_; simp (disch := first | omega | (simp only [go_sem, isRow, isFlat, Option.isSome_some]; done) | assumption | (simp only [ints_length, List.length_replicate, List.length_set, List.length_append, List.length_take, List.length_drop, List.length_cons, List.length_nil] <;> omega) | fail) only [go_sem, Nat.reduceAdd, Nat.reduceSub, reduceIte, Nat.reduceEqDiff, Int.reduceToNat, Int.reduceBEq, Int.reduceBNe, mem2, hje, c0, c1]; (repeat (with_reducible refine And.intro (by first | omega | rfl | assumption | decide) ?_)); (first | (refine hK _ _ ?_) | (refine ⟨_, rfl, hK _ _ ?_⟩) | (refine Or.inl (hK _ _ ?_)) | (refine ⟨_, _, Or.inl (stp), (by first | exact ⟨[], (List.append_nil _).symm⟩ | exact ⟨_, rfl⟩), hK _ _ ?_⟩) | (refine ⟨_, _, Or.inl (stp), hK _ _ ?_⟩) | (refine ⟨_, _, Or.inl (stp).weakQ, hK _ _ ?_⟩)); clear hK K)
          | (with_reducible refine lops_nil ?_)
          | (with_reducible refine lavc_reg ?_)
          | (with_reducible refine lavc_seq ?_)
          | (with_reducible refine lavc_block ?_)
          | (with_reducible refine lavc_skip ?_)
          | (with_reducible refine lavc_exit ?_)
          | (with_reducible refine lavc_ret ?_)
          | (with_reducible refine lavcR_round ?_)
          | (simp only [↓reduceIte, Nat.reduceEqDiff, reduceCtorEq]))
        refine ⟨m2 - 1, (j + 1, g3 ++ [x]), by omega, by show m2 - 1 + (j + 1) = i; omega, ?_, ?_⟩
        · simp only [ms9_2, putAll, blank, List.foldl_cons, List.foldl_nil, List.set_cons_succ, List.set_cons_zero, List.cons_append, List.nil_append, ALe, true_or, or_true, and_true, true_and, eq_self, reduceCtorEq, false_or]
        · rfl
      obtain rfl : j = i := by omega
      repeat (first
        | (with_reducible refine lops_step fun K hK => ?_; simp (disch := first | omega | (simp only [go_sem, isRow, isFlat, Option.isSome_some]; done) | assumption | (simp only [ints_length, List.length_replicate, List.length_set, List.length_append, List.length_take, List.length_drop, List.length_cons, List.length_nil] <;> omega) | fail) only [go_sem, Nat.reduceAdd, Nat.reduceSub, reduceIte, Nat.reduceEqDiff, Int.reduceToNat, Int.reduceBEq, Int.reduceBNe, mem2, i1, i2, hpe]; (try (first | (refine And.intro (fun _ => ?_) (fun h => absurd h (by decide))) | (refine And.intro (fun h => absurd h (by decide)) (fun _ => ?_)))); (repeat (with_reducible refine And.intro (by first | omega | rfl | assumption | decide) ?_)); (first | (refine hK _ _ ?_) | (refine ⟨_, rfl, hK _ _ ?_⟩) | (refine Or.inl (hK _ _ ?_))); clear hK K)
        | (with_reducible refine lops_nil ?_)
        | (with_reducible refine lavc_reg ?_)
        | (with_reducible refine lavc_seq ?_)
        | (with_reducible refine lavc_block ?_)
        | (with_reducible refine lavc_skip ?_)
        | (with_reducible refine lavc_exit ?_)
        | (with_reducible refine lavc_ret ?_)
        | (with_reducible refine lavcR_round ?_)
        | (refine lavc_cond rfl (fun _ => ?_) (fun hc => absurd hc (by decide)))
        | (refine lavc_cond rfl (fun hc => absurd hc (by decide)) (fun _ => ?_))
        | (simp only [↓reduceIte, Nat.reduceEqDiff, reduceCtorEq]))
      refine ⟨m - 1, (p' + 1 + 1, g3), by omega, by show m - 1 + (p' + 1 + 1) = Ps; omega, ?_, ?_⟩
      · simp only [ms9_0, putAll, blank, List.foldl_cons, List.foldl_nil, List.set_cons_succ, List.set_cons_zero, List.cons_append, List.nil_append, ALe, true_or, or_true, and_true, true_and, eq_self, reduceCtorEq, false_or]
      · rw [hnx]
        rfl
  obtain rfl : p = Ps := by omega
  obtain ⟨p', hp'⟩ : ∃ p', p = p' + 1 := ⟨p - 1, by omega⟩
  have hlen := (stage2_ok F M (by omega) p').2.2
  rw [← hp'] at hlen
  have hgz := hst.1.at (show M - 1 < (stage2 F M p).1.length by omega)
  have hgy := hst.2.1.at (show M - 1 < (stage2 F M p).2.length by omega)
  obtain ⟨S, hS⟩ : ∃ S, stage2 F M p = S := ⟨_, rfl⟩
  rw [hS] at hlen hgz hgy ⊢
  obtain ⟨Z, hZ⟩ : ∃ Z, S.1.getD (M - 1) [] = Z := ⟨_, rfl⟩
  obtain ⟨Y, hY⟩ : ∃ Y, S.2.getD (M - 1) [] = Y := ⟨_, rfl⟩
  rw [hZ] at hgz
  rw [hY] at hgy
  have hh : hash2 pw salt M p n = sumP n [] (packP [Z, Y]) := by unfold hash2; rw [hF, hS, hZ, hY]
  rw [hh]
  have la := lasts2_a (H := mem2 M p R S gg) (bc := 1) (vc := 0) (bL := 3) (vL := 1) (Lc := 2) (b0 := 2) (v0 := 0) (b1 := 4) (v1 := 0) (xL := false) (M := M) (Ps := p) (L := 2) (R := R) (cs := lc S.1 M) (cs1 := lc S.2 M) (A := Z) (B := Y) rfl rfl rfl (lc_len _ _ (by omega)) (by omega) (by rw [lc_at _ _ _ (by omega), hZ]) rfl (lc_len _ _ (by omega)) (by rw [lc_at _ _ _ (by omega), hY])
  unfold mem2 at la
  simp only [List.length_cons, List.cons_append] at la
  have pp := fun cx => pack_p [Z, Y] [blkC Z, blkC Y] cx (Rws.cons hgz.1 (Rws.cons hgy.1 Rws.nil)) (by simp) (fun r hr => by simp at hr; rcases hr with rfl | rfl <;> omega)
  have hpl := pack_len [Z, Y] 64 (fun r hr => by simp at hr; rcases hr with rfl | rfl <;> omega)
  have hpb := pack_b8 [Z, Y] (fun r hr => by simp at hr; rcases hr with rfl | rfl; exact hgz.2; exact hgy.2)
  obtain ⟨T, hT⟩ : ∃ T, packP [Z, Y] = T := ⟨_, rfl⟩
  rw [hT] at pp hpl hpb ⊢
  have sm := fun cx => (Sum_p n [] none 0 rfl (by omega) (by omega) (by decide) B8.nil [.vsl T.length (ints .u8 T) none] cx [T] (Rws.cons rfl Rws.nil) T (by simp) hpb (by simp at hpl; omega) (by simp)).les (args := [.v (.int .i64 n), .v (.slice none 0 0), .vsl [T].length [.vsl T.length (ints .u8 T) none] cx]) ⟨AvLe.refl _, AvLe.nil, AvLe.refl _, trivial⟩
  have one : ∀ x : AV, (List.replicate 1 (AV.v (Value.slice none 0 0))).set 0 x = [x] := fun _ => rfl
  have tk2 : List.take 2 [blkC Z, blkC Y] = [blkC Z, blkC Y] := rfl
  repeat (first
    | (with_reducible refine lops_step fun K hK => ?_; simp (disch := first | omega | (simp only [go_sem, isRow, isFlat, Option.isSome_some]; done) | assumption | (simp only [ints_length, List.length_replicate, List.length_set, List.length_append, List.length_take, List.length_drop, List.length_cons, List.length_nil] <;> omega) | fail) only [go_sem, Nat.reduceAdd, Nat.reduceSub, reduceIte, Nat.reduceEqDiff, Int.reduceToNat, Int.reduceBEq, Int.reduceBNe, mem2]; (repeat (with_reducible refine And.intro (by first | omega | rfl | assumption | decide) ?_)); (first | (refine hK _ _ ?_) | (refine ⟨_, rfl, hK _ _ ?_⟩) | (refine Or.inl (hK _ _ ?_)) | (refine ⟨_, _, Or.inl (la), (by first | exact ⟨[], (List.append_nil _).symm⟩ | exact ⟨_, rfl⟩), hK _ _ ?_⟩) | (refine ⟨_, _, Or.inl (la), hK _ _ ?_⟩) | (refine ⟨_, _, Or.inl (la).weakQ, hK _ _ ?_⟩)); clear hK K)
    | (with_reducible refine lops_nil ?_)
    | (with_reducible refine lavc_reg ?_)
    | (with_reducible refine lavc_seq ?_)
    | (with_reducible refine lavc_block ?_)
    | (with_reducible refine lavc_skip ?_)
    | (with_reducible refine lavc_exit ?_)
    | (with_reducible refine lavc_ret ?_)
    | (with_reducible refine lavcR_round ?_)
    | (simp only [↓reduceIte, Nat.reduceEqDiff, reduceCtorEq]))
  refine lops_fz [gg.length + 1 + 1 + 1 + 1 + 1] ?_
  simp (disch := first | omega | (simp only [go_sem, isRow, isFlat, Option.isSome_some]; done) | assumption | (simp only [ints_length, List.length_replicate, List.length_set, List.length_append, List.length_take, List.length_drop, List.length_cons, List.length_nil] <;> omega) | fail) only [afz, fzV, fzS, fz_ints, List.map_cons, List.map_nil, List.getElem?_cons_zero, List.getElem?_cons_succ, List.set_cons_zero, List.set_cons_succ, ints_length, true_and, and_true, and_self, if_true, if_false, ↓reduceIte, Nat.reduceEqDiff, Nat.reduceLeDiff, Nat.reduceMul, Nat.reduceAdd, Nat.zero_add, Nat.mul_one, Nat.le_refl, List.length_replicate, List.drop_zero, ints_drop, ints_take, List.take_of_length_le, false_and, and_false, reduceCtorEq, Bool.false_eq_true, forall_const, if_pos, if_neg, get_concat, set_concat, tk2, List.getElem?_cons_succ, List.set_cons_succ]
  (repeat (with_reducible refine And.intro (by first | omega | rfl | assumption | decide) ?_))
  intro K hK
  simp (disch := first | omega | (simp only [go_sem, isRow, isFlat, Option.isSome_some]; done) | assumption | (simp only [ints_length, List.length_replicate, List.length_set, List.length_append, List.length_take, List.length_drop, List.length_cons, List.length_nil] <;> omega) | fail) only [go_sem, Nat.reduceAdd, Nat.reduceSub, reduceIte, Nat.reduceEqDiff, Int.reduceToNat, Int.reduceBEq, Int.reduceBNe, get_concat, set_concat, tk2, List.getElem?_cons_succ, List.set_cons_succ]
  refine ⟨_, _, Or.inl ((pp _).go _).weakQ, hK _ _ ?_⟩
  clear hK K
  repeat (first
    | (with_reducible refine lops_step fun K hK => ?_; simp (disch := first | omega | (simp only [go_sem, isRow, isFlat, Option.isSome_some]; done) | assumption | (simp only [ints_length, List.length_replicate, List.length_set, List.length_append, List.length_take, List.length_drop, List.length_cons, List.length_nil] <;> omega) | fail) only [go_sem, Nat.reduceAdd, Nat.reduceSub, reduceIte, Nat.reduceEqDiff, Int.reduceToNat, Int.reduceBEq, Int.reduceBNe, one]; (repeat (with_reducible refine And.intro (by first | omega | rfl | assumption | decide) ?_)); (first | (refine hK _ _ ?_) | (refine ⟨_, rfl, hK _ _ ?_⟩) | (refine Or.inr (hK _ _ ?_)) | (refine Or.inr ⟨rfl, hK _ _ ?_⟩) | (refine ⟨_, _, Or.inl ((sm _).go _), (by first | exact ⟨[], (List.append_nil _).symm⟩ | exact ⟨_, rfl⟩), hK _ _ ?_⟩) | (refine ⟨_, _, Or.inl ((sm _).go _), hK _ _ ?_⟩) | (refine ⟨_, _, Or.inl ((sm _).go _).weakQ, hK _ _ ?_⟩)); clear hK K)
    | (with_reducible refine lops_nil ?_)
    | (with_reducible refine lavc_reg ?_)
    | (with_reducible refine lavc_seq ?_)
    | (with_reducible refine lavc_block ?_)
    | (with_reducible refine lavc_skip ?_)
    | (with_reducible refine lavc_exit ?_)
    | (with_reducible refine lavc_ret ?_)
    | (with_reducible refine lavcR_round ?_)
    | (simp only [↓reduceIte, Nat.reduceEqDiff, reduceCtorEq]))
  refine And.intro (by simp) ?_
  simp (disch := first | omega | (simp only [go_sem, isRow, isFlat, Option.isSome_some]; done) | assumption | (simp only [ints_length, List.length_replicate, List.length_set, List.length_append, List.length_take, List.length_drop, List.length_cons, List.length_nil] <;> omega) | fail) only [go_sem, Nat.reduceAdd, Nat.reduceSub, reduceIte, Nat.reduceEqDiff, Int.reduceToNat, Int.reduceBEq, Int.reduceBNe, aret, aretL, aret1, aenv]
  (repeat (with_reducible refine And.intro (by first | omega | rfl | assumption | decide) ?_))
  exact end0 (NR.tup (by intro c hc; simp at hc; rcases hc with rfl | rfl; exact NR.vsl (NR.ints _ _); exact NR.v _)) rfl
end Go.Abs.S
