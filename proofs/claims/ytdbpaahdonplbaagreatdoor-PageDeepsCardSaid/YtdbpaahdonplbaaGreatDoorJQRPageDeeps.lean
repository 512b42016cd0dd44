/- The statement PageDeepsSaid and its tied card: for every input the law answers true and the input reads as it did, the listed variables holding what the program lays in them. -/
import Derived.Test.YtdbpaahdonplbaaGreatDoorRows
import Derived.Test.YtdbpaahdonplbaaGreatDoorCards
import Derived.Test.YtdbpaahdonplbaaGreatDoorTie
import Derived.Test.YtdbpaahdonplbaaGreatDoorJQ1
import Derived.Test.YtdbpaahdonplbaaGreatDoorJQ2
import Derived.Test.YtdbpaahdonplbaaGreatDoorJQ3
import Derived.Test.YtdbpaahdonplbaaGreatDoorJQ4
import Derived.Test.YtdbpaahdonplbaaGreatDoorJQ5
import Derived.Test.YtdbpaahdonplbaaGreatDoorJQ6
import Derived.Test.YtdbpaahdonplbaaGreatDoorJQ7
import Derived.Test.YtdbpaahdonplbaaGreatDoorJQ8
import Derived.Test.YtdbpaahdonplbaaGreatDoorJQ9
import Derived.Test.YtdbpaahdonplbaaGreatDoorJQ10
import Derived.Lay
import Derived.MakeChecks
import Derived.WalkKit
import Derived.ProofKit
import Derived.OpenShut
import Derived.ShutString
import Derived.ChangeOld
import Derived.Below
import Derived.SizedLaws
import Derived.LaidMore
import Derived.Stop.Joined
import Derived.SevenTiedAt
namespace Go.Proofs.YtdbpaahdonplbaaGreatDoor.pageDeeps
open Go.ChangeShapes Go.WideShapes Go.ChangeAt Go.RowKit
open Go.ChangeMaps (open_string shut_string)
open Go.Abs (AV AR lawSig)
set_option linter.unusedVariables false
set_option linter.unusedSimpArgs false
theorem own : ownKnob Tryz.prog.godebug = none := by kernel_rfl
theorem laidOut : laidOutB Tryz.prog = true := by kernel_rfl
theorem gl_of {W : World} (h : laidMetH Tryz.prog Rows.pageDeepsRow.laid W) (g : Nat) : AR (lawSig W) W (Go.Abs.S.glob g) (.pointer (some ⟨g, 0, none⟩)) := by
  rw [MakeChecks.laidMetH_plain _ _ _ (by kernel_rfl)] at h
  unfold Go.Abs.S.glob
  by_cases e0 : g = 0
  · subst e0
    rw [if_pos rfl]
    exact Go.Abs.laid_ar (fun i => LaidCells.laid_cell h (n := "escutcheon/page.plain") (d := Rows.laid_escutcheon_page_plain) (by simp [Rows.pageDeepsRow]) (g := 0) (t := 59) (k := 8) (l := Go.Abs.S.cells_escutcheon_page_plain) (by kernel_rfl) (by kernel_rfl) (by kernel_rfl) i) (of_decide_eq_true (by kernel_rfl)) Go.Abs.S.glob_escutcheon_page_plain
  rw [if_neg e0]
  by_cases e1 : g = 1
  · subst e1
    rw [if_pos rfl]
    exact Go.Abs.laid_ar (fun i => LaidCells.laid_cell h (n := "escutcheon/coin.hexa") (d := Rows.laid_escutcheon_coin_hexa) (by simp [Rows.pageDeepsRow]) (g := 1) (t := 96) (k := 8) (l := Go.Abs.S.cells_escutcheon_coin_hexa) (by kernel_rfl) (by kernel_rfl) (by kernel_rfl) i) (of_decide_eq_true (by kernel_rfl)) Go.Abs.S.glob_escutcheon_coin_hexa
  rw [if_neg e1]
  by_cases e2 : g = 2
  · subst e2
    rw [if_pos rfl]
    exact Go.Abs.laid_ar (fun i => LaidCells.laid_cell h (n := "unicode/utf8.first") (d := Rows.laid_unicode_utf8_first) (by simp [Rows.pageDeepsRow]) (g := 2) (t := 105) (k := 8) (l := Go.Abs.S.cells_unicode_utf8_first) (by kernel_rfl) (by kernel_rfl) (by kernel_rfl) i) (of_decide_eq_true (by kernel_rfl)) Go.Abs.S.glob_unicode_utf8_first
  rw [if_neg e2]
  by_cases e3 : g = 3
  · subst e3
    rw [if_pos rfl]
    exact Go.Abs.laid_ar (fun i => LaidCells.laid_cell h (n := "unicode/utf8.acceptRanges") (d := Rows.laid_unicode_utf8_acceptRanges) (by simp [Rows.pageDeepsRow]) (g := 3) (t := 108) (k := 8) (l := Go.Abs.S.cells_unicode_utf8_acceptRanges) (by kernel_rfl) (by kernel_rfl) (by kernel_rfl) i) (of_decide_eq_true (by kernel_rfl)) Go.Abs.S.glob_unicode_utf8_acceptRanges
  rw [if_neg e3]
  by_cases e7 : g = 7
  · subst e7
    rw [if_pos rfl]
    exact Go.Abs.laid_ar (fun i => LaidCells.laid_cell h (n := "internal/strconv.uint64pow10") (d := Rows.laid_internal_strconv_uint64pow10) (by simp [Rows.pageDeepsRow]) (g := 7) (t := 135) (k := 8) (l := Go.Abs.S.cells_internal_strconv_uint64pow10) (by kernel_rfl) (by kernel_rfl) (by kernel_rfl) i) (of_decide_eq_true (by kernel_rfl)) Go.Abs.S.glob_internal_strconv_uint64pow10
  rw [if_neg e7]
  by_cases e8 : g = 8
  · subst e8
    rw [if_pos rfl]
    exact Go.Abs.laid_ar (fun i => LaidCells.laid_cell h (n := "math/bits.deBruijn32tab") (d := Rows.laid_math_bits_deBruijn32tab) (by simp [Rows.pageDeepsRow]) (g := 8) (t := 141) (k := 8) (l := Go.Abs.S.cells_math_bits_deBruijn32tab) (by kernel_rfl) (by kernel_rfl) (by kernel_rfl) i) (of_decide_eq_true (by kernel_rfl)) Go.Abs.S.glob_math_bits_deBruijn32tab
  rw [if_neg e8]
  by_cases e9 : g = 9
  · subst e9
    rw [if_pos rfl]
    exact Go.Abs.laid_ar (fun i => LaidCells.laid_cell h (n := "math/bits.deBruijn64tab") (d := Rows.laid_math_bits_deBruijn64tab) (by simp [Rows.pageDeepsRow]) (g := 9) (t := 142) (k := 8) (l := Go.Abs.S.cells_math_bits_deBruijn64tab) (by kernel_rfl) (by kernel_rfl) (by kernel_rfl) i) (of_decide_eq_true (by kernel_rfl)) Go.Abs.S.glob_math_bits_deBruijn64tab
  rw [if_neg e9]
  exact AR.any _
set_option maxRecDepth 100000 in
theorem lifted (os : Os) (started : os.Started) (H : Type) (enc : TypeId × Value → H) :
    ReturnsInHanded {} Tryz.checked os 3 .any (fun w args => (Rows.pageDeepsSpec.pre enc Tryz.prog Tryz.f3 [] false w args ∧ laidMetH Tryz.prog Rows.pageDeepsRow.laid w) ∧ sizedMet enc Tryz.prog Tryz.f3 (OpenSpec.ofChange Rows.pageDeepsSpec) false w args)
      (Rows.pageDeepsSpec.post enc Tryz.prog Tryz.f3 false true false false) := by
  refine returnsInHanded_of_change_and (C := Tryz.checked) (X := fun w _ => laidMetH Tryz.prog Rows.pageDeepsRow.laid w) (fun _ _ _ hh h => h.of_heap hh) own started (by kernel_rfl) Tryz.func3
    (ChangeSpec.witness_shaped (enc := enc) (C := Tryz.checked) (os := os) (X := fun w _ => laidMetH Tryz.prog Rows.pageDeepsRow.laid w) false (World.laidAll Tryz.prog os Rows.pageDeepsRow.laid) #[.int .u8 0, .bool false, .agg #[.int .i64 0, .string ByteArray.empty, .slice none 0 0, .slice none 0 0]] 8 (World.laidAll_os _ _ _) (World.shaped_of_ZipB (by kernel_rfl) (by kernel_rfl)) (by kernel_rfl) (by kernel_rfl) (by kernel_rfl) (by rw [MakeChecks.laidMetH_plain _ _ _ (by kernel_rfl)]; exact laidMet_laidAll _ (by kernel_rfl) (by kernel_rfl))) ?_
  intro W base args ds gs before hval0 hW _ hsz0 hL _
  have hval : ∀ (j : Nat) t v, Tryz.f3.params[j]? = some t → args[j]? = some v → Value.okWide Tryz.prog W .any base t v := hval0
  have hW' := hW
  obtain ⟨p, q, hA0, hV, rfl, hfz, hnd⟩ := hW
  have hA : DataW.TrodAll enc Tryz.prog W 0 (fun _ => true) true Tryz.f3.params.toList args.toList ds p := hA0
  rw [Tryz.params3] at hA hval
  obtain ⟨v0, vs0, d0, ds0, p0, q0, hargs, rfl, rfl, h0, r0⟩ := trodAll_cons hA
  obtain ⟨v1, vs1, d1, ds1, p1, q1, rfl, rfl, rfl, h1, r1⟩ := trodAll_cons r0
  obtain ⟨v2, vs2, d2, ds2, p2, q2, rfl, rfl, rfl, h2, r2⟩ := trodAll_cons r1
  obtain ⟨rfl, rfl, rfl⟩ := trodAll_nil r2
  obtain rfl : args = #[v0, v1, v2] := by cases args; simp_all
  obtain ⟨rfl, rfl⟩ := trodVars_none hV
  obtain ⟨l0, rfl, rfl, rfl, w0⟩ := open_int Tryz.underlying5 (hval 0 5 v0 rfl rfl) h0
  have z0 := w0
  simp [Lit.wf, IntKind.min, IntKind.max, IntKind.signed, IntKind.bits] at z0
  obtain ⟨l1, rfl, rfl, rfl⟩ := open_bool Tryz.underlying4 (hval 1 4 v1 rfl rfl) h1
  have k2 := h2
  have lt2 : ∀ x ∈ p2, x.block < W.heap.size := by obtain ⟨m, hm⟩ := k2; exact DataW.trod_lt m _ _ _ hm
  obtain ⟨us2, rfl⟩ := Go.Abs.okWide_struct Tryz.underlying26 (hval 2 26 v2 rfl rfl)
  obtain ⟨l2, w2, a2⟩ := Go.Abs.Rd.argN (r := Go.Abs.Rd.val) (Go.Abs.Rd.val_is (fun f => Go.Abs.val_at Tryz.underlying26 (by kernel_rfl) rfl rfl rfl rfl (by kernel_rfl) (by kernel_rfl) (by kernel_rfl) (by kernel_rfl) Tryz.underlying22 Tryz.underlying9 Tryz.underlying23 Tryz.underlying9 (by kernel_rfl) Tryz.underlying24 f)) h2
  clear hA0 hval0 hsz0
  refine (Go.Abs.ACall.law (b := true) (G := Go.Abs.S.glob) (args := [AV.v (.int .u8 l0), AV.v (.bool l1), AV.agg l2.cells]) ((by obtain ⟨n0, rfl⟩ := Int.eq_ofNat_of_zero_le (show 0 ≤ l0 by omega); exact Go.Abs.S.deeps_law n0 (by omega) l1 l2 [])) rfl ?_ (gl_of hL)).mono fun e W' ⟨he, hbel⟩ => ?_
  · intro j hj
    match j, hj with
    | 0, _ => exact AR.v _
    | 1, _ => exact AR.v _
    | 2, _ => exact a2
  have bel : Below W.heap.size W W' := hbel
  subst he
  exact ⟨_, rfl, _, _, _, [], _, [], hW', trodAll_mk1 (shut_bool Tryz.underlying4 _), (trodAll_cons_mk (shut_int Tryz.underlying5 w0) (trodAll_cons_mk (shut_bool Tryz.underlying4 _) (trodAll_cons_mk (Below.trod laidOut (by kernel_rfl) (of_decide_eq_true (by kernel_rfl)) k2 bel lt2) trodAll_mk0))), rfl, bel.frame _, fun h => by cases h⟩
theorem over : Rows.pageDeepsRow.holds Tryz.pinned (OpenSpec.ofChange Rows.pageDeepsSpec) :=
  OpenClaim.holds_of_wide 3 Tryz.f3 rfl rfl rfl rfl rfl rfl rfl ⟨rfl, rfl, rfl, rfl, rfl⟩ rfl rfl rfl rfl rfl (by kernel_rfl) Tryz.func3 (by kernel_rfl)
    (of_decide_eq_true (by kernel_rfl)) (by unfold Func.isWrapper; first | (rw [if_pos (by decide +kernel)]; kernel_rfl) | (rw [if_neg (by decide +kernel)]; exact ⟨rfl, rfl⟩))
    (fun os started H enc _ => lifted os started H enc)
theorem card : Rows.PageDeepsCardSaid :=
  Claim7.holds_tied_plain_at .later [] [.data, .data, .data, .data, .sentinel, .sentinel, .wider, .data, .pinned] true (true, "8810f2a73cd278616b54357959e87152ce710d17d449cbbfe37cd282bea5d53a") true
    over (fun _ h => by cases h) (by kernel_rfl) (fun _ h => by cases h) pageDeeps_row_tie rfl ⟨rfl, rfl⟩ (by kernel_rfl) rfl
    (fun f fn hf hfn => by
      obtain rfl : f = 3 := Option.some.inj ((show Tryz.prog.funcNamed "escutcheon/escutcheonlaw20.PageDeeps" = some 3 by kernel_rfl).symm.trans hf) |>.symm
      obtain rfl : fn = Tryz.f3 := (Option.some.inj (Tryz.func3.symm.trans hfn)).symm
      refine ⟨by kernel_rfl, fun j t ht => ?_⟩
      rw [Tryz.params3] at ht
      rcases j with _ | j
      · obtain rfl : t = 5 := by simpa using ht.symm
        exact (show Tryz.prog.wantsStandIn 5 = false by kernel_rfl)
      rcases j with _ | j
      · obtain rfl : t = 4 := by simpa using ht.symm
        exact (show Tryz.prog.wantsStandIn 4 = false by kernel_rfl)
      rcases j with _ | j
      · obtain rfl : t = 26 := by simpa using ht.symm
        exact (show Tryz.prog.wantsStandIn 26 = false by kernel_rfl)
      · simp at ht)
    (by kernel_rfl)
#print axioms card
end Go.Proofs.YtdbpaahdonplbaaGreatDoor.pageDeeps
namespace Go.Proofs.YtdbpaahdonplbaaGreatDoor
/-- The statement, under a short name, for the claim. -/
theorem pageDeeps_holds : Rows.PageDeepsCardSaid := pageDeeps.card
end Go.Proofs.YtdbpaahdonplbaaGreatDoor
