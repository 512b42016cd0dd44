/- The statement PageGetsSaid and its tied card: for every input the law answers true and the input reads as it did, the listed variables holding what the program lays in them. -/
import Derived.Test.YtdbpaahdonplbaaDoorRows
import Derived.Test.YtdbpaahdonplbaaDoorCards
import Derived.Test.YtdbpaahdonplbaaDoorTie
import Derived.Test.YtdbpaahdonplbaaDoorJPS1
import Derived.Test.YtdbpaahdonplbaaDoorJP1
import Derived.Test.YtdbpaahdonplbaaDoorJP2
import Derived.Test.YtdbpaahdonplbaaDoorJP3
import Derived.Test.YtdbpaahdonplbaaDoorJP4
import Derived.Test.YtdbpaahdonplbaaDoorJP5
import Derived.Test.YtdbpaahdonplbaaDoorJP6
import Derived.Test.YtdbpaahdonplbaaDoorJP7
import Derived.Test.YtdbpaahdonplbaaDoorJP9
import Derived.Test.YtdbpaahdonplbaaDoorJP12
import Derived.Lay
import Derived.MakeChecks
import Derived.WalkKit
import Derived.ProofKit
import Derived.OpenShut
import Derived.ShutString
import Derived.ChangeOld
import Derived.Below
import Derived.SizedLaws
import Derived.LaidMore
import Derived.Stop.Joined
import Derived.SevenTiedAt
namespace Go.Proofs.YtdbpaahdonplbaaDoor.pageGets
open Go.ChangeShapes Go.WideShapes Go.ChangeAt Go.RowKit
open Go.ChangeMaps (open_string shut_string)
open Go.Abs (AV AR lawSig)
set_option linter.unusedVariables false
set_option linter.unusedSimpArgs false
theorem own : ownKnob Tryd.prog.godebug = none := by kernel_rfl
theorem laidOut : laidOutB Tryd.prog = true := by kernel_rfl
theorem gl_of {W : World} (h : laidMetH Tryd.prog Rows.pageGetsRow.laid W) (g : Nat) : AR (lawSig W) W (Go.Abs.S.glob g) (.pointer (some ⟨g, 0, none⟩)) := by
  rw [MakeChecks.laidMetH_plain _ _ _ (by kernel_rfl)] at h
  unfold Go.Abs.S.glob
  by_cases e0 : g = 0
  · subst e0
    rw [if_pos rfl]
    exact Go.Abs.laid_ar (fun i => LaidCells.laid_cell h (n := "escutcheon/page.plain") (d := Rows.laid_escutcheon_page_plain) (by simp [Rows.pageGetsRow]) (g := 0) (t := 68) (k := 8) (l := Go.Abs.S.cells_escutcheon_page_plain) (by kernel_rfl) (by kernel_rfl) (by kernel_rfl) i) (of_decide_eq_true (by kernel_rfl)) Go.Abs.S.glob_escutcheon_page_plain
  rw [if_neg e0]
  by_cases e1 : g = 1
  · subst e1
    rw [if_pos rfl]
    exact Go.Abs.laid_ar (fun i => LaidCells.laid_cell h (n := "escutcheon/coin.hexa") (d := Rows.laid_escutcheon_coin_hexa) (by simp [Rows.pageGetsRow]) (g := 1) (t := 102) (k := 8) (l := Go.Abs.S.cells_escutcheon_coin_hexa) (by kernel_rfl) (by kernel_rfl) (by kernel_rfl) i) (of_decide_eq_true (by kernel_rfl)) Go.Abs.S.glob_escutcheon_coin_hexa
  rw [if_neg e1]
  by_cases e2 : g = 2
  · subst e2
    rw [if_pos rfl]
    exact Go.Abs.laid_ar (fun i => LaidCells.laid_cell h (n := "unicode/utf8.first") (d := Rows.laid_unicode_utf8_first) (by simp [Rows.pageGetsRow]) (g := 2) (t := 111) (k := 8) (l := Go.Abs.S.cells_unicode_utf8_first) (by kernel_rfl) (by kernel_rfl) (by kernel_rfl) i) (of_decide_eq_true (by kernel_rfl)) Go.Abs.S.glob_unicode_utf8_first
  rw [if_neg e2]
  by_cases e3 : g = 3
  · subst e3
    rw [if_pos rfl]
    exact Go.Abs.laid_ar (fun i => LaidCells.laid_cell h (n := "unicode/utf8.acceptRanges") (d := Rows.laid_unicode_utf8_acceptRanges) (by simp [Rows.pageGetsRow]) (g := 3) (t := 114) (k := 8) (l := Go.Abs.S.cells_unicode_utf8_acceptRanges) (by kernel_rfl) (by kernel_rfl) (by kernel_rfl) i) (of_decide_eq_true (by kernel_rfl)) Go.Abs.S.glob_unicode_utf8_acceptRanges
  rw [if_neg e3]
  by_cases e7 : g = 7
  · subst e7
    rw [if_pos rfl]
    exact Go.Abs.laid_ar (fun i => LaidCells.laid_cell h (n := "internal/strconv.uint64pow10") (d := Rows.laid_internal_strconv_uint64pow10) (by simp [Rows.pageGetsRow]) (g := 7) (t := 140) (k := 8) (l := Go.Abs.S.cells_internal_strconv_uint64pow10) (by kernel_rfl) (by kernel_rfl) (by kernel_rfl) i) (of_decide_eq_true (by kernel_rfl)) Go.Abs.S.glob_internal_strconv_uint64pow10
  rw [if_neg e7]
  by_cases e8 : g = 8
  · subst e8
    rw [if_pos rfl]
    exact Go.Abs.laid_ar (fun i => LaidCells.laid_cell h (n := "math/bits.deBruijn32tab") (d := Rows.laid_math_bits_deBruijn32tab) (by simp [Rows.pageGetsRow]) (g := 8) (t := 146) (k := 8) (l := Go.Abs.S.cells_math_bits_deBruijn32tab) (by kernel_rfl) (by kernel_rfl) (by kernel_rfl) i) (of_decide_eq_true (by kernel_rfl)) Go.Abs.S.glob_math_bits_deBruijn32tab
  rw [if_neg e8]
  by_cases e9 : g = 9
  · subst e9
    rw [if_pos rfl]
    exact Go.Abs.laid_ar (fun i => LaidCells.laid_cell h (n := "math/bits.deBruijn64tab") (d := Rows.laid_math_bits_deBruijn64tab) (by simp [Rows.pageGetsRow]) (g := 9) (t := 147) (k := 8) (l := Go.Abs.S.cells_math_bits_deBruijn64tab) (by kernel_rfl) (by kernel_rfl) (by kernel_rfl) i) (of_decide_eq_true (by kernel_rfl)) Go.Abs.S.glob_math_bits_deBruijn64tab
  rw [if_neg e9]
  exact AR.any _
set_option maxRecDepth 100000 in
theorem lifted (os : Os) (started : os.Started) (H : Type) (enc : TypeId × Value → H) :
    ReturnsInHanded {} Tryd.checked os 3 .any (fun w args => (Rows.pageGetsSpec.pre enc Tryd.prog Tryd.f3 [] false w args ∧ laidMetH Tryd.prog Rows.pageGetsRow.laid w) ∧ sizedMet enc Tryd.prog Tryd.f3 (OpenSpec.ofChange Rows.pageGetsSpec) false w args)
      (Rows.pageGetsSpec.post enc Tryd.prog Tryd.f3 false true false false) := by
  refine returnsInHanded_of_change_and (C := Tryd.checked) (X := fun w _ => laidMetH Tryd.prog Rows.pageGetsRow.laid w) (fun _ _ _ hh h => h.of_heap hh) own started (by kernel_rfl) Tryd.func3
    (ChangeSpec.witness_shaped (enc := enc) (C := Tryd.checked) (os := os) (X := fun w _ => laidMetH Tryd.prog Rows.pageGetsRow.laid w) false (World.laidAll Tryd.prog os Rows.pageGetsRow.laid) #[.agg #[.int .i64 0, .string ByteArray.empty, .slice none 0 0, .slice none 0 0], .string ByteArray.empty, .slice none 0 0] 8 (World.laidAll_os _ _ _) (World.shaped_of_ZipB (by kernel_rfl) (by kernel_rfl)) (by kernel_rfl) (by kernel_rfl) (by kernel_rfl) (by rw [MakeChecks.laidMetH_plain _ _ _ (by kernel_rfl)]; exact laidMet_laidAll _ (by kernel_rfl) (by kernel_rfl))) ?_
  intro W base args ds gs before hval0 hW _ hsz0 hL _
  have hval : ∀ (j : Nat) t v, Tryd.f3.params[j]? = some t → args[j]? = some v → Value.okWide Tryd.prog W .any base t v := hval0
  have hW' := hW
  obtain ⟨p, q, hA0, hV, rfl, hfz, hnd⟩ := hW
  have hA : DataW.TrodAll enc Tryd.prog W 0 (fun _ => true) true Tryd.f3.params.toList args.toList ds p := hA0
  rw [Tryd.params3] at hA hval
  obtain ⟨v0, vs0, d0, ds0, p0, q0, hargs, rfl, rfl, h0, r0⟩ := trodAll_cons hA
  obtain ⟨v1, vs1, d1, ds1, p1, q1, rfl, rfl, rfl, h1, r1⟩ := trodAll_cons r0
  obtain ⟨v2, vs2, d2, ds2, p2, q2, rfl, rfl, rfl, h2, r2⟩ := trodAll_cons r1
  obtain ⟨rfl, rfl, rfl⟩ := trodAll_nil r2
  obtain rfl : args = #[v0, v1, v2] := by cases args; simp_all
  obtain ⟨rfl, rfl⟩ := trodVars_none hV
  have k0 := h0
  have lt0 : ∀ x ∈ p0, x.block < W.heap.size := by obtain ⟨m, hm⟩ := k0; exact DataW.trod_lt m _ _ _ hm
  obtain ⟨us0, rfl⟩ := Go.Abs.okWide_struct Tryd.underlying26 (hval 0 26 v0 rfl rfl)
  obtain ⟨l0, w0, a0⟩ := Go.Abs.Rd.argN (r := Go.Abs.Rd.val) (Go.Abs.Rd.val_is (fun f => Go.Abs.val_at Tryd.underlying26 (by kernel_rfl) rfl rfl rfl rfl (by kernel_rfl) (by kernel_rfl) (by kernel_rfl) (by kernel_rfl) Tryd.underlying22 Tryd.underlying9 Tryd.underlying23 Tryd.underlying9 (by kernel_rfl) Tryd.underlying24 f)) h0
  obtain ⟨l1, rfl, rfl, rfl, w1⟩ := open_string Tryd.underlying9 (hval 1 9 v1 rfl rfl) h1
  have k2 := h2
  have lt2 : ∀ x ∈ p2, x.block < W.heap.size := by obtain ⟨m, hm⟩ := k2; exact DataW.trod_lt m _ _ _ hm
  obtain ⟨l2, ⟨m2, w2⟩, a2, dt2⟩ := Go.Abs.Rd.arg1d (r := Go.Abs.Rd.str.slice) (Go.Abs.Rd.slice_is Tryd.underlying23 (by kernel_rfl) (by decide) (Go.Abs.Rd.str_is Tryd.underlying9)) rfl h2 (by obtain ⟨_, _, _, rfl⟩ := okWide_slice Tryd.underlying23 (hval 2 23 v2 rfl rfl); rfl)
  simp only [Go.Abs.rd_slice, Go.Abs.rd_arr, Go.Abs.flat_ints, Go.Abs.flat_rows, Go.Abs.flat_strs, Go.Abs.flat_vals] at a2
  clear hA0 hval0 hsz0
  refine (Go.Abs.ACall.law (b := true) (G := Go.Abs.S.glob) (args := [AV.agg l0.cells, AV.v (.string l1), AV.vsl l2.length (Go.Abs.strs l2) none]) ((Go.Abs.S.gets_law l0 l1 l2 (by intro s hs; have h := w2 s hs; have hm : Go.maxLen ≤ 9223372036854775807 := (by decide); exact Nat.le_trans h hm) [])) rfl ?_ (gl_of hL)).mono fun e W' ⟨he, hbel⟩ => ?_
  · intro j hj
    match j, hj with
    | 0, _ => exact a0
    | 1, _ => exact AR.v _
    | 2, _ => exact a2
  have bel : Below W.heap.size W W' := hbel
  subst he
  exact ⟨_, rfl, _, _, _, [], _, [], hW', trodAll_mk1 (shut_bool Tryd.underlying4 _), (trodAll_cons_mk (Below.trod laidOut (by kernel_rfl) (of_decide_eq_true (by kernel_rfl)) k0 bel lt0) (trodAll_cons_mk (shut_string Tryd.underlying9 w1) (trodAll_cons_mk (Below.trod laidOut (by kernel_rfl) (of_decide_eq_true (by kernel_rfl)) k2 bel lt2) trodAll_mk0))), rfl, bel.frame _, fun h => by cases h⟩
theorem over : Rows.pageGetsRow.holds Tryd.pinned (OpenSpec.ofChange Rows.pageGetsSpec) :=
  OpenClaim.holds_of_wide 3 Tryd.f3 rfl rfl rfl rfl rfl rfl rfl ⟨rfl, rfl, rfl, rfl, rfl⟩ rfl rfl rfl rfl rfl (by kernel_rfl) Tryd.func3 (by kernel_rfl)
    (of_decide_eq_true (by kernel_rfl)) (by unfold Func.isWrapper; first | (rw [if_pos (by decide +kernel)]; kernel_rfl) | (rw [if_neg (by decide +kernel)]; exact ⟨rfl, rfl⟩))
    (fun os started H enc _ => lifted os started H enc)
theorem card : Rows.PageGetsCardSaid :=
  Claim7.holds_tied_plain_at .later [] [.data, .data, .data, .data, .sentinel, .sentinel, .wider, .data, .pinned] true (true, "9a8b894f39832ebdeda06f16e5d5f63bea4f9ec54837ab8ff271aa2475bb3e3d") true
    over (fun _ h => by cases h) (by kernel_rfl) (fun _ h => by cases h) pageGets_row_tie rfl ⟨rfl, rfl⟩ (by kernel_rfl) rfl
    (fun f fn hf hfn => by
      obtain rfl : f = 3 := Option.some.inj ((show Tryd.prog.funcNamed "escutcheon/escutcheonlaw20.PageGets" = some 3 by kernel_rfl).symm.trans hf) |>.symm
      obtain rfl : fn = Tryd.f3 := (Option.some.inj (Tryd.func3.symm.trans hfn)).symm
      refine ⟨by kernel_rfl, fun j t ht => ?_⟩
      rw [Tryd.params3] at ht
      rcases j with _ | j
      · obtain rfl : t = 26 := by simpa using ht.symm
        exact (show Tryd.prog.wantsStandIn 26 = false by kernel_rfl)
      rcases j with _ | j
      · obtain rfl : t = 9 := by simpa using ht.symm
        exact (show Tryd.prog.wantsStandIn 9 = false by kernel_rfl)
      rcases j with _ | j
      · obtain rfl : t = 23 := by simpa using ht.symm
        exact (show Tryd.prog.wantsStandIn 23 = false by kernel_rfl)
      · simp at ht)
    (by kernel_rfl)
#print axioms card
end Go.Proofs.YtdbpaahdonplbaaDoor.pageGets
namespace Go.Proofs.YtdbpaahdonplbaaDoor
/-- The statement, under a short name, for the claim. -/
theorem pageGets_holds : Rows.PageGetsCardSaid := pageGets.card
end Go.Proofs.YtdbpaahdonplbaaDoor
