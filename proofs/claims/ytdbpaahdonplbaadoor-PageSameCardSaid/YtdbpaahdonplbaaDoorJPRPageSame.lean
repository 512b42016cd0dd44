/- The statement PageSameSaid and its tied card: for every input the law answers true and the input reads as it did, the listed variables holding what the program lays in them. -/
import Derived.Test.YtdbpaahdonplbaaDoorRows
import Derived.Test.YtdbpaahdonplbaaDoorCards
import Derived.Test.YtdbpaahdonplbaaDoorTie
import Derived.Test.YtdbpaahdonplbaaDoorJPS1
import Derived.Test.YtdbpaahdonplbaaDoorJP1
import Derived.Test.YtdbpaahdonplbaaDoorJP2
import Derived.Test.YtdbpaahdonplbaaDoorJP3
import Derived.Test.YtdbpaahdonplbaaDoorJP4
import Derived.Test.YtdbpaahdonplbaaDoorJP5
import Derived.Test.YtdbpaahdonplbaaDoorJP6
import Derived.Test.YtdbpaahdonplbaaDoorJP8
import Derived.Test.YtdbpaahdonplbaaDoorJP9
import Derived.Test.YtdbpaahdonplbaaDoorJP11
import Derived.Test.YtdbpaahdonplbaaDoorJP14
import Derived.Lay
import Derived.MakeChecks
import Derived.WalkKit
import Derived.ProofKit
import Derived.OpenShut
import Derived.ShutString
import Derived.ChangeOld
import Derived.Below
import Derived.SizedLaws
import Derived.LaidMore
import Derived.Stop.Joined
import Derived.SevenTiedAt
namespace Go.Proofs.YtdbpaahdonplbaaDoor.pageSame
open Go.ChangeShapes Go.WideShapes Go.ChangeAt Go.RowKit
open Go.ChangeMaps (open_string shut_string)
open Go.Abs (AV AR lawSig)
set_option linter.unusedVariables false
set_option linter.unusedSimpArgs false
theorem own : ownKnob Tryd.prog.godebug = none := by kernel_rfl
theorem laidOut : laidOutB Tryd.prog = true := by kernel_rfl
theorem gl_of {W : World} (h : laidMetH Tryd.prog Rows.pageSameRow.laid W) (g : Nat) : AR (lawSig W) W (Go.Abs.S.glob g) (.pointer (some ⟨g, 0, none⟩)) := by
  rw [MakeChecks.laidMetH_plain _ _ _ (by kernel_rfl)] at h
  unfold Go.Abs.S.glob
  by_cases e0 : g = 0
  · subst e0
    rw [if_pos rfl]
    exact Go.Abs.laid_ar (fun i => LaidCells.laid_cell h (n := "escutcheon/page.plain") (d := Rows.laid_escutcheon_page_plain) (by simp [Rows.pageSameRow]) (g := 0) (t := 68) (k := 8) (l := Go.Abs.S.cells_escutcheon_page_plain) (by kernel_rfl) (by kernel_rfl) (by kernel_rfl) i) (of_decide_eq_true (by kernel_rfl)) Go.Abs.S.glob_escutcheon_page_plain
  rw [if_neg e0]
  by_cases e1 : g = 1
  · subst e1
    rw [if_pos rfl]
    exact Go.Abs.laid_ar (fun i => LaidCells.laid_cell h (n := "escutcheon/coin.hexa") (d := Rows.laid_escutcheon_coin_hexa) (by simp [Rows.pageSameRow]) (g := 1) (t := 102) (k := 8) (l := Go.Abs.S.cells_escutcheon_coin_hexa) (by kernel_rfl) (by kernel_rfl) (by kernel_rfl) i) (of_decide_eq_true (by kernel_rfl)) Go.Abs.S.glob_escutcheon_coin_hexa
  rw [if_neg e1]
  by_cases e2 : g = 2
  · subst e2
    rw [if_pos rfl]
    exact Go.Abs.laid_ar (fun i => LaidCells.laid_cell h (n := "unicode/utf8.first") (d := Rows.laid_unicode_utf8_first) (by simp [Rows.pageSameRow]) (g := 2) (t := 111) (k := 8) (l := Go.Abs.S.cells_unicode_utf8_first) (by kernel_rfl) (by kernel_rfl) (by kernel_rfl) i) (of_decide_eq_true (by kernel_rfl)) Go.Abs.S.glob_unicode_utf8_first
  rw [if_neg e2]
  by_cases e3 : g = 3
  · subst e3
    rw [if_pos rfl]
    exact Go.Abs.laid_ar (fun i => LaidCells.laid_cell h (n := "unicode/utf8.acceptRanges") (d := Rows.laid_unicode_utf8_acceptRanges) (by simp [Rows.pageSameRow]) (g := 3) (t := 114) (k := 8) (l := Go.Abs.S.cells_unicode_utf8_acceptRanges) (by kernel_rfl) (by kernel_rfl) (by kernel_rfl) i) (of_decide_eq_true (by kernel_rfl)) Go.Abs.S.glob_unicode_utf8_acceptRanges
  rw [if_neg e3]
  by_cases e7 : g = 7
  · subst e7
    rw [if_pos rfl]
    exact Go.Abs.laid_ar (fun i => LaidCells.laid_cell h (n := "internal/strconv.uint64pow10") (d := Rows.laid_internal_strconv_uint64pow10) (by simp [Rows.pageSameRow]) (g := 7) (t := 140) (k := 8) (l := Go.Abs.S.cells_internal_strconv_uint64pow10) (by kernel_rfl) (by kernel_rfl) (by kernel_rfl) i) (of_decide_eq_true (by kernel_rfl)) Go.Abs.S.glob_internal_strconv_uint64pow10
  rw [if_neg e7]
  by_cases e8 : g = 8
  · subst e8
    rw [if_pos rfl]
    exact Go.Abs.laid_ar (fun i => LaidCells.laid_cell h (n := "math/bits.deBruijn32tab") (d := Rows.laid_math_bits_deBruijn32tab) (by simp [Rows.pageSameRow]) (g := 8) (t := 146) (k := 8) (l := Go.Abs.S.cells_math_bits_deBruijn32tab) (by kernel_rfl) (by kernel_rfl) (by kernel_rfl) i) (of_decide_eq_true (by kernel_rfl)) Go.Abs.S.glob_math_bits_deBruijn32tab
  rw [if_neg e8]
  by_cases e9 : g = 9
  · subst e9
    rw [if_pos rfl]
    exact Go.Abs.laid_ar (fun i => LaidCells.laid_cell h (n := "math/bits.deBruijn64tab") (d := Rows.laid_math_bits_deBruijn64tab) (by simp [Rows.pageSameRow]) (g := 9) (t := 147) (k := 8) (l := Go.Abs.S.cells_math_bits_deBruijn64tab) (by kernel_rfl) (by kernel_rfl) (by kernel_rfl) i) (of_decide_eq_true (by kernel_rfl)) Go.Abs.S.glob_math_bits_deBruijn64tab
  rw [if_neg e9]
  exact AR.any _
set_option maxRecDepth 100000 in
theorem lifted (os : Os) (started : os.Started) (H : Type) (enc : TypeId × Value → H) :
    ReturnsInHanded {} Tryd.checked os 6 .any (fun w args => (Rows.pageSameSpec.pre enc Tryd.prog Tryd.f6 [] false w args ∧ laidMetH Tryd.prog Rows.pageSameRow.laid w) ∧ sizedMet enc Tryd.prog Tryd.f6 (OpenSpec.ofChange Rows.pageSameSpec) false w args)
      (Rows.pageSameSpec.post enc Tryd.prog Tryd.f6 false true false false) := by
  refine returnsInHanded_of_change_and (C := Tryd.checked) (X := fun w _ => laidMetH Tryd.prog Rows.pageSameRow.laid w) (fun _ _ _ hh h => h.of_heap hh) own started (by kernel_rfl) Tryd.func6
    (ChangeSpec.witness_shaped (enc := enc) (C := Tryd.checked) (os := os) (X := fun w _ => laidMetH Tryd.prog Rows.pageSameRow.laid w) false (World.laidAll Tryd.prog os Rows.pageSameRow.laid) #[.agg #[.int .i64 0, .string ByteArray.empty, .slice none 0 0, .slice none 0 0], .agg #[.int .i64 0, .string ByteArray.empty, .slice none 0 0, .slice none 0 0]] 8 (World.laidAll_os _ _ _) (World.shaped_of_ZipB (by kernel_rfl) (by kernel_rfl)) (by kernel_rfl) (by kernel_rfl) (by kernel_rfl) (by rw [MakeChecks.laidMetH_plain _ _ _ (by kernel_rfl)]; exact laidMet_laidAll _ (by kernel_rfl) (by kernel_rfl))) ?_
  intro W base args ds gs before hval0 hW _ hsz0 hL _
  have hval : ∀ (j : Nat) t v, Tryd.f6.params[j]? = some t → args[j]? = some v → Value.okWide Tryd.prog W .any base t v := hval0
  have hW' := hW
  obtain ⟨p, q, hA0, hV, rfl, hfz, hnd⟩ := hW
  have hA : DataW.TrodAll enc Tryd.prog W 0 (fun _ => true) true Tryd.f6.params.toList args.toList ds p := hA0
  rw [Tryd.params6] at hA hval
  obtain ⟨v0, vs0, d0, ds0, p0, q0, hargs, rfl, rfl, h0, r0⟩ := trodAll_cons hA
  obtain ⟨v1, vs1, d1, ds1, p1, q1, rfl, rfl, rfl, h1, r1⟩ := trodAll_cons r0
  obtain ⟨rfl, rfl, rfl⟩ := trodAll_nil r1
  obtain rfl : args = #[v0, v1] := by cases args; simp_all
  obtain ⟨rfl, rfl⟩ := trodVars_none hV
  have k0 := h0
  have lt0 : ∀ x ∈ p0, x.block < W.heap.size := by obtain ⟨m, hm⟩ := k0; exact DataW.trod_lt m _ _ _ hm
  obtain ⟨us0, rfl⟩ := Go.Abs.okWide_struct Tryd.underlying26 (hval 0 26 v0 rfl rfl)
  obtain ⟨l0, w0, a0⟩ := Go.Abs.Rd.argN (r := Go.Abs.Rd.val) (Go.Abs.Rd.val_is (fun f => Go.Abs.val_at Tryd.underlying26 (by kernel_rfl) rfl rfl rfl rfl (by kernel_rfl) (by kernel_rfl) (by kernel_rfl) (by kernel_rfl) Tryd.underlying22 Tryd.underlying9 Tryd.underlying23 Tryd.underlying9 (by kernel_rfl) Tryd.underlying24 f)) h0
  have k1 := h1
  have lt1 : ∀ x ∈ p1, x.block < W.heap.size := by obtain ⟨m, hm⟩ := k1; exact DataW.trod_lt m _ _ _ hm
  obtain ⟨us1, rfl⟩ := Go.Abs.okWide_struct Tryd.underlying26 (hval 1 26 v1 rfl rfl)
  obtain ⟨l1, w1, a1⟩ := Go.Abs.Rd.argN (r := Go.Abs.Rd.val) (Go.Abs.Rd.val_is (fun f => Go.Abs.val_at Tryd.underlying26 (by kernel_rfl) rfl rfl rfl rfl (by kernel_rfl) (by kernel_rfl) (by kernel_rfl) (by kernel_rfl) Tryd.underlying22 Tryd.underlying9 Tryd.underlying23 Tryd.underlying9 (by kernel_rfl) Tryd.underlying24 f)) h1
  clear hA0 hval0 hsz0
  refine (Go.Abs.ACall.law (b := true) (G := Go.Abs.S.glob) (args := [AV.agg l0.cells, AV.agg l1.cells]) ((Go.Abs.S.same_law l0 l1 [])) rfl ?_ (gl_of hL)).mono fun e W' ⟨he, hbel⟩ => ?_
  · intro j hj
    match j, hj with
    | 0, _ => exact a0
    | 1, _ => exact a1
  have bel : Below W.heap.size W W' := hbel
  subst he
  exact ⟨_, rfl, _, _, _, [], _, [], hW', trodAll_mk1 (shut_bool Tryd.underlying4 _), (trodAll_cons_mk (Below.trod laidOut (by kernel_rfl) (of_decide_eq_true (by kernel_rfl)) k0 bel lt0) (trodAll_cons_mk (Below.trod laidOut (by kernel_rfl) (of_decide_eq_true (by kernel_rfl)) k1 bel lt1) trodAll_mk0)), rfl, bel.frame _, fun h => by cases h⟩
theorem over : Rows.pageSameRow.holds Tryd.pinned (OpenSpec.ofChange Rows.pageSameSpec) :=
  OpenClaim.holds_of_wide 6 Tryd.f6 rfl rfl rfl rfl rfl rfl rfl ⟨rfl, rfl, rfl, rfl, rfl⟩ rfl rfl rfl rfl rfl (by kernel_rfl) Tryd.func6 (by kernel_rfl)
    (of_decide_eq_true (by kernel_rfl)) (by unfold Func.isWrapper; first | (rw [if_pos (by decide +kernel)]; kernel_rfl) | (rw [if_neg (by decide +kernel)]; exact ⟨rfl, rfl⟩))
    (fun os started H enc _ => lifted os started H enc)
theorem card : Rows.PageSameCardSaid :=
  Claim7.holds_tied_plain_at .later [] [.data, .data, .data, .data, .sentinel, .sentinel, .wider, .data, .pinned] true (true, "9a8b894f39832ebdeda06f16e5d5f63bea4f9ec54837ab8ff271aa2475bb3e3d") true
    over (fun _ h => by cases h) (by kernel_rfl) (fun _ h => by cases h) pageSame_row_tie rfl ⟨rfl, rfl⟩ (by kernel_rfl) rfl
    (fun f fn hf hfn => by
      obtain rfl : f = 6 := Option.some.inj ((show Tryd.prog.funcNamed "escutcheon/escutcheonlaw20.PageSame" = some 6 by kernel_rfl).symm.trans hf) |>.symm
      obtain rfl : fn = Tryd.f6 := (Option.some.inj (Tryd.func6.symm.trans hfn)).symm
      refine ⟨by kernel_rfl, fun j t ht => ?_⟩
      rw [Tryd.params6] at ht
      rcases j with _ | j
      · obtain rfl : t = 26 := by simpa using ht.symm
        exact (show Tryd.prog.wantsStandIn 26 = false by kernel_rfl)
      rcases j with _ | j
      · obtain rfl : t = 26 := by simpa using ht.symm
        exact (show Tryd.prog.wantsStandIn 26 = false by kernel_rfl)
      · simp at ht)
    (by kernel_rfl)
#print axioms card
end Go.Proofs.YtdbpaahdonplbaaDoor.pageSame
namespace Go.Proofs.YtdbpaahdonplbaaDoor
/-- The statement, under a short name, for the claim. -/
theorem pageSame_holds : Rows.PageSameCardSaid := pageSame.card
end Go.Proofs.YtdbpaahdonplbaaDoor
