/- (*taker).number, in the second view. -/
import Derived.Test.YtldfdofeecmhoaaDoorNum
import Derived.Test.YtldfdofeecmhoaaDoorCoiF
namespace Go.Abs
open Go.Proofs.YtldfdofeecmhoaaDoor.Back (Sv)
set_option linter.unusedVariables false
set_option linter.unusedSimpArgs false
variable {P : Program} {G : Glob} {σ : Sig} {H : AHeap} {w : World}
/-- A block apart from all that is seen may be turned; others may come. -/
theorem Rel.aside (r : Rel G σ H w) {x : Nat} (hx : ¬ Img σ H x) (hro : ¬ σ.ro x) {W : World} (h : Sv x w.heap.size w W) : Rel G σ H W ∧ ∀ y u, AR σ w y u → AR σ W y u := by
  have hr : ∀ B, σ.ro B → W.heap[B]? = w.heap[B]? := fun B hB => h.same B (r.roLt B hB) (fun e => hro (e ▸ hB))
  have hm : ∀ y u, AR σ w y u → AR σ W y u := fun y u hy => hy.mono (fun _ _ _ h => h) (fun _ h => h) hr
  refine ⟨⟨fun b k l h1 h2 h3 => ?_, r.inj, r.apart, fun B hB => Nat.lt_of_lt_of_le (r.roLt B hB) h.size, r.fresh, fun g => hm _ _ (r.glob g), r.base0⟩, hm⟩
  obtain ⟨C, fr, c1, c2, c3, c4, c5⟩ := r.blk b k l h1 h2 h3
  refine ⟨C, fr, by rw [h.same l.B (r.lt h1 h2 h3) (fun e => hx ⟨b, k, l, h1, h2, h3, e⟩)]; exact c1, c2, c3, c4, fun j hj => ?_⟩
  obtain ⟨u, d1, d2⟩ := c5 j hj
  exact ⟨u, d1, hm _ _ d2⟩
theorem noImg_new (r : Rel G σ H w) : ¬ Img σ H w.heap.size ∧ ¬ σ.ro w.heap.size :=
  ⟨fun ⟨b, k, l, h1, h2, h3, e⟩ => by have := r.lt h1 h2 h3; omega, fun h => by have := r.roLt _ h; omega⟩
theorem bytes_of_ar {Z : List Int} {c : Option Nat} {u : Value} (h : AR σ w (.vsl Z.length (ints .u8 Z) c) u) : (∃ A cap, u = .slice A 0 cap ∧ Z = []) ∨ ∃ B o cap, u = .slice (some ⟨B, o, none⟩) Z.length cap ∧ σ.ro B ∧ ∀ j, j < Z.length → w.cell? ⟨B, o + j, none⟩ = some (.int .u8 (Z[j]?.getD 0)) := by
  generalize hn : Z.length = n at h
  generalize hc : ints .u8 Z = cs at h
  cases h with
  | vsl B' o cap' uu hr hm har hl hx =>
    subst hc
    rw [ints_length] at hm har
    refine .inr ⟨B', o, cap', rfl, hr, fun j hj => ?_⟩
    rw [hm j (by omega)]
    have := har j (by omega)
    rw [ints_get (by omega), List.getD_eq_getElem?_getD] at this
    generalize uu j = y at this
    cases this
    rfl
  | vsl0 A cap' hx => exact .inl ⟨A, cap', rfl, List.eq_nil_of_length_eq_zero hn⟩
namespace S
open Go.Proofs
open Go.Proofs.YtldfdofeecmhoaaDoor.Back
/-- What a number is read as; what is left; whether there were too few bytes, or it is too great. -/
def foldB (Z : List Int) : Int := fold (upto (back Z Z.length) Z.length)
def numP (B : List Int) (sh : Bool) : Int × List Int × Bool :=
  if foldB (takeP B sh 8).1 > 2147483647 then (0, (takeP B sh 8).2.1, true) else (IntKind.i64.wrap (foldB (takeP B sh 8).1), (takeP B sh 8).2.1, (takeP B sh 8).2.2)
theorem takeP_le (B : List Int) (sh : Bool) (n : Int) : (takeP B sh n).1.length ≤ B.length ∧ (takeP B sh n).2.1.length ≤ B.length := by
  unfold takeP
  split
  · simp
  · simp
    omega
set_option maxHeartbeats 2000000 in
theorem number_m (B : List Int) (sh : Bool) (v e : Nat) (h1 : B.length ≤ 1000000) :
    MCall Tryd.prog glob 24 [] ⟨[.vsl B.length (ints .u8 B) none, .v (.bool sh)], v, true, e⟩ (.v (.int .i64 (numP B sh).1)) ⟨[.vsl (numP B sh).2.1.length (ints .u8 (numP B sh).2.1) none, .v (.bool (numP B sh).2.2)], v, true, e⟩ := by
  intro H b hb
  refine ⟨⟨_, Tryd.func24, by kernel_rfl, by kernel_rfl⟩, fun σ w us hu ha rel => ?_⟩
  obtain ⟨u0, rfl⟩ : ∃ u, us = #[u] := by
    obtain ⟨l⟩ := us
    match l, hu with
    | [u], _ => exact ⟨u, rfl⟩
  have h0 := ha 0 (by simp)
  simp only [List.getD_cons_zero] at h0
  have e0 : (#[u0] : Array Value).getD 0 undef = u0 := rfl
  rw [e0] at h0
  cases h0 with
  | @ptr _ _ _ l hρ =>
    obtain ⟨T, base, lim⟩ := l
    obtain rfl : base = 0 := rel.base0 _ _ _ hρ
    have hblt : b < H.length := (List.getElem?_eq_some_iff.1 hb).1
    have hTlt : T < w.heap.size := rel.lt hb rfl hρ
    obtain ⟨n1, n2⟩ := noImg_new rel
    obtain ⟨w1, hw1⟩ : ∃ w1, w.alloc (.cells #[.int .u64 0] 63) = w1 := ⟨_, rfl⟩
    have hs1 : w1.heap.size = w.heap.size + 1 := by rw [← hw1]; simp
    have hnb : w1.heap[w.heap.size]? = some (.cells #[.int .u64 0] 63 (0, 0)) := by rw [← hw1, World.alloc_heap_new]
    have hsv1 : Sv w.heap.size w.heap.size w w1 := by rw [← hw1]; exact Sv.of_below ((Go.RowKit.Below.refl _ w).alloc (Nat.le_refl _) _)
    obtain ⟨rel1, m1⟩ := rel.aside n1 n2 hsv1
    obtain ⟨Z, hZ⟩ : ∃ Z, (takeP B sh 8).1 = Z := ⟨_, rfl⟩
    obtain ⟨B2, hB2⟩ : ∃ B2, (takeP B sh 8).2.1 = B2 := ⟨_, rfl⟩
    obtain ⟨s2, hs2⟩ : ∃ s2, (takeP B sh 8).2.2 = s2 := ⟨_, rfl⟩
    have hle := takeP_le B sh 8
    have hnum : numP B sh = if foldB Z > 2147483647 then (0, B2, true) else (IntKind.i64.wrap (foldB Z), B2, s2) := by unfold numP; rw [hZ, hB2, hs2]
    have ht := take_m B sh 8 v e (by decide) h1 H b hb
    rw [hZ, hB2, hs2] at ht
    rw [hZ, hB2] at hle
    obtain ⟨HT, hHT⟩ : ∃ HT, H.set b ⟨[.vsl B2.length (ints .u8 B2) none, .v (.bool s2)], v, true, e⟩ = HT := ⟨_, rfl⟩
    rw [hHT] at ht
    have hTk : HT[b]? = some ⟨[.vsl B2.length (ints .u8 B2) none, .v (.bool s2)], v, true, e⟩ := by rw [← hHT]; exact List.getElem?_set_self hblt
    have hcalls := ht.2 σ w1 #[.pointer (some ⟨T, 0, none⟩), .int .i64 8] (by simp) (fun j hj => by
      match j, hj with
      | 0, _ => simpa using AR.ptr (off := 0) hρ
      | 1, _ => simpa using AR.v _) rel1
    rw [← hw1] at hcalls
    have hnw := number_w T w Z (by omega) (fun u w' => Res glob false σ H w1 (.vsl Z.length (ints .u8 Z) none) HT u w') (by rw [← hw1]; exact hcalls) (fun u w' ⟨σ1, a1, a2, a3, _⟩ => by
      have hsz : w1.heap.size ≤ w'.heap.size := a3.size
      have hsame : w'.heap[w.heap.size]? = some (.cells #[.int .u64 0] 63 (0, 0)) := (a3.frame _ (by omega) n1).trans hnb
      have hro1 : ¬ σ1.ro w.heap.size := fun h => by
        rcases a3.roNew _ h with h | h | h
        · exact n2 h
        · omega
        · exact n1 h
      obtain ⟨C, fr, c1, c2, c3, c4, c5⟩ := a2.blk b _ _ hTk rfl (a3.ρ _ _ _ hρ)
      simp only [Nat.zero_add, List.length_cons, List.length_nil] at c1 c2 c3 c4 c5
      obtain ⟨u1, d1, _⟩ := c5 1 (by simp)
      refine ⟨?_, by omega, by simp [World.cell?, hsame], by simp [World.frozen?, hsame], by omega, by omega, ⟨u1, by simp only [World.cell?, c1]; exact d1⟩, ?_, ?_⟩
      · rcases bytes_of_ar a1 with ⟨A, cap, rfl, hz⟩ | ⟨B', o, cap, rfl, hr, hc⟩
        · exact .inl ⟨A, cap, rfl, hz⟩
        · exact .inr ⟨B', o, cap, rfl, a2.roLt _ hr, fun e' => hro1 (e' ▸ hr), hc⟩
      · simp only [World.frozen?, c1]
        rcases c4 with h | h
        · simp; omega
        · simp; omega
      · rcases bytes_of_ar a1 with ⟨A, cap, rfl, hz⟩ | ⟨B', o, cap, rfl, hr, hc⟩ <;> exact ⟨_, _, _, rfl⟩)
    refine hnw.mono ?_
    rintro e' W ⟨u, w', ⟨σ1, a1, a2, a3, _⟩, hcase⟩
    have hsz : w1.heap.size ≤ w'.heap.size := a3.size
    have hro1 : ¬ σ1.ro w.heap.size := fun h => by
      rcases a3.roNew _ h with h | h | h
      · exact n2 h
      · omega
      · exact n1 h
    have hi1 : ¬ Img σ1 HT w.heap.size := fun h => by
      rcases a3.img h with h | h
      · omega
      · exact n1 h
    -- how memory may go on, from the call's begin
    have ext : ∀ (K : AHeap) (V : World), (∀ (j : Nat) (k : Blk), K[j]? = some k → ∃ k' : Blk, HT[j]? = some k' ∧ k'.live = k.live ∧ k'.ver = k.ver) → HT.length = K.length → V.os = w'.os → V.tape = w'.tape → V.output = w'.output → w'.heap.size ≤ V.heap.size →
        (∀ B, B < w'.heap.size → B ≠ w.heap.size → B ≠ T → V.heap[B]? = w'.heap[B]?) → Ext σ H w σ1 K V := fun K V hK hKl ho ht hp hs hh => by
      refine ⟨ho.trans (a3.os.trans hsv1.os), ht.trans (a3.tape.trans hsv1.tape), hp.trans (a3.output.trans hsv1.output), by omega, a3.ρ, a3.ro, fun B hB hn => ?_, fun b' ver' l' h => ?_, fun b' k' l' h2 h3 h4 => ?_, fun B hB => ?_, by rw [← hKl]; exact a3.len⟩
      · have hBT : B ≠ T := fun e1 => hn ⟨b, _, _, hb, rfl, hρ, e1.symm⟩
        rw [hh B (by omega) (by omega) hBT, a3.frame B (by omega) hn]
        exact hsv1.same B hB (by omega)
      · rcases a3.new _ _ _ h with h | h | h
        · exact .inl h
        · exact .inr (.inl (by omega))
        · exact .inr (.inr h)
      · obtain ⟨k0, q1, q2, q3⟩ := hK _ _ h2
        have := a3.stay b' k0 l' q1 (q2.trans h3) (by rw [q3]; exact h4)
        rwa [q3] at this
      · rcases a3.roNew B hB with h | h | h
        · exact .inl h
        · exact .inr (.inl (by omega))
        · exact .inr (.inr h)
    rcases hcase with ⟨hbig, rfl, hS⟩ | ⟨hsmall, rfl, hS⟩
    · have hn' : numP B sh = (0, B2, true) := by rw [hnum]; exact if_pos hbig
      rw [hn']
      obtain ⟨C, fr, c1, c2, c3, c4, c5⟩ := a2.blk b _ _ hTk rfl (a3.ρ _ _ _ hρ)
      simp only [Nat.zero_add, List.length_cons, List.length_nil] at c1 c2 c3 c4 c5
      obtain ⟨q0, d0, d1⟩ := c5 0 (by simp)
      obtain ⟨r3, x3, m3⟩ := a2.upd hTk rfl (a3.ρ _ _ _ hρ) (C := C.setIfInBounds 1 (.bool true)) (fr := fr) (w' := w'.setCell ⟨T, 1, none⟩ (.bool true)) [.vsl B2.length (ints .u8 B2) none, .v (.bool true)] (setCell_blk w' T 1 _ C _ fr c1) (by simpa using c2) (by simpa using c3) c4 (fun j hj => by
        match j, hj with
        | 0, _ =>
          refine ⟨q0, ?_, by simpa using d1⟩
          simp only [Nat.zero_add]
          rw [Array.getElem?_setIfInBounds_ne (by omega)]
          exact d0
        | 1, _ =>
          refine ⟨.bool true, ?_, by simpa using AR.v _⟩
          simp only [Nat.zero_add]
          rw [Array.getElem?_setIfInBounds_self_of_lt (by omega)]) (fun B' hB' => by
        simp only [World.setCell]
        rw [Array.getElem?_modify, if_neg (fun e => hB' e.symm)]) (by simp [World.setCell]) rfl rfl rfl
      have hHT2 : HT.set b ⟨[.vsl B2.length (ints .u8 B2) none, .v (.bool true)], v, true, e⟩ = H.set b ⟨[.vsl B2.length (ints .u8 B2) none, .v (.bool true)], v, true, e⟩ := by rw [← hHT, List.set_set]
      have hszc : (w'.setCell ⟨T, 1, none⟩ (.bool true)).heap.size = w'.heap.size := by simp [World.setCell]
      obtain ⟨r4, m4⟩ := r3.aside (x := w.heap.size) (fun h => by
        rcases x3.img h with h | h
        · omega
        · exact hi1 h) hro1 (W := W) (by rw [hszc]; exact hS)
      refine ⟨_, rfl, σ1, .v _, hHT2 ▸ r4, ?_, fun h => by cases h⟩
      rw [← hHT2]
      refine ext _ W (fun j k hk => ?_) (by simp) hS.os hS.tape hS.output (by have := hS.size; rw [hszc] at this; exact this) (fun B' h2 h3 h4 => ?_)
      · rw [List.getElem?_set] at hk
        split at hk
        · rename_i ej
          subst ej
          split at hk
          · cases hk
            exact ⟨_, hTk, rfl, rfl⟩
          · cases hk
        · exact ⟨k, hk, rfl, rfl⟩
      · rw [hS.same B' h2 h3]
        simp only [World.setCell]
        rw [Array.getElem?_modify, if_neg (fun e1 => h4 e1.symm)]
    · have hn' : numP B sh = (IntKind.i64.wrap (foldB Z), B2, s2) := by rw [hnum]; exact if_neg (by unfold foldB; omega)
      rw [hn']
      obtain ⟨r4, m4⟩ := a2.aside (x := w.heap.size) hi1 hro1 hS
      refine ⟨_, rfl, σ1, .v _, hHT ▸ r4, ?_, fun h => by cases h⟩
      show Ext σ H w σ1 (H.set b ⟨[.vsl B2.length (ints .u8 B2) none, .v (.bool s2)], v, true, e⟩) W
      rw [hHT]
      exact ext HT W (fun j k hk => ⟨k, hk, rfl, rfl⟩) rfl hS.os hS.tape hS.output hS.size (fun B' h2 h3 _ => hS.same B' h2 h3)
end S
end Go.Abs
