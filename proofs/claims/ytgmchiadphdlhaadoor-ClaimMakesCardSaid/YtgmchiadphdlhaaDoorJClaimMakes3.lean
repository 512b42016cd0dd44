/- Words for evaluating. From a law's call, looked at, to what its row asks; arrays as arguments. What an argument that reads as data is looked at as: numbers, texts, bools, slices and arrays of these. A -/
import Derived.LoopN
import Derived.Test.YtgmchiadphdlhaaDoorJClaimMakes2
import Derived.OpenShut
import Derived.ProofKit
import Derived.WalkKit
import Derived.Deep.Slices
import Derived.Test.YtgmchiadphdlhaaDoorProg
import Derived.KernelRfl
import GoSem.PinnedTables
import Derived.Laws.Strings
import Derived.WideShapes
namespace Go.Abs
set_option linter.unusedVariables false
def zArr (k : IntKind) (n : Nat) : Value := .agg (List.replicate n (Value.int k 0)).toArray
@[go_sem] theorem zArr_cells (k : IntKind) (n : Nat) : (zArr k n).cells.toList.map AV.v = ints k (List.replicate n 0) := by
  simp [zArr, Value.cells, ints, List.map_replicate]
@[go_sem] theorem zArr_size (k : IntKind) (n : Nat) : (zArr k n).cells.size = n := by simp [zArr, Value.cells]
theorem NR.ints (k : IntKind) (l : List Int) : ∀ c ∈ ints k l, NR c := by
  intro c hc
  simp only [Go.Abs.ints, List.mem_map] at hc
  obtain ⟨n, _, rfl⟩ := hc
  exact .v _
/-- A number is read. -/
theorem rdP_ints {P : Program} {t : TypeId} {k k' : IntKind} (h : P.underlying t = some (.int k')) (l : List Int) (off : Nat) (K : AV → Prop) : rdP P t (ints k l) off K = (off < l.length ∧ K (.v (.int k (l.getD off 0)))) := by
  unfold rdP
  rw [h]
  simp only [ints_length]
  apply propext
  constructor
  · rintro ⟨h1, h2⟩
    rw [ints_get h1] at h2
    exact ⟨h1, h2⟩
  · rintro ⟨h1, h2⟩
    rw [ints_get h1]
    exact ⟨h1, h2⟩
def isRow : Option TypeDesc → Bool
  | some (.struct _) | some (.array _ _) => true
  | _ => false
def isFlat : Option TypeDesc → Bool
  | some (.struct _) | some (.array _ _) | none => false
  | _ => true
/-- No row: read as it is. -/
theorem rdP_flat {P : Program} {t : TypeId} (h : isFlat (P.underlying t) = true) (cs : List AV) (off : Nat) (K : AV → Prop) : rdP P t cs off K = (off < cs.length ∧ K (cs.getD off .any)) := by
  unfold rdP
  cases hd : P.underlying t with
  | none => simp [hd, isFlat] at h
  | some d => cases d <;> simp_all [isFlat]
/-- A row is read. -/
theorem rdP_row {P : Program} {t : TypeId} (h : isRow (P.underlying t) = true) (hs : (tsz P t).isSome = true) (cs : List AV) (off : Nat) (K : AV → Prop) : rdP P t cs off K = (off + (tsz P t).getD 0 ≤ cs.length ∧ K (.agg ((cs.drop off).take ((tsz P t).getD 0)))) := by
  obtain ⟨n, hn⟩ := Option.isSome_iff_exists.1 hs
  unfold rdP
  rw [hn]
  cases hd : P.underlying t with
  | none => simp [hd, isRow] at h
  | some d => cases d <;> simp_all [isRow]
theorem ints_take (k : IntKind) (l : List Int) (n : Nat) : (ints k l).take n = ints k (l.take n) := by simp [ints, List.map_take]
theorem ints_drop (k : IntKind) (l : List Int) (n : Nat) : (ints k l).drop n = ints k (l.drop n) := by simp [ints, List.map_drop]
theorem ints_append (k : IntKind) (l m : List Int) : ints k l ++ ints k m = ints k (l ++ m) := by simp [ints]
theorem splice_ints {k : IntKind} {l : List Int} {off : Nat} {x : Int} (h : off < l.length) : splice (ints k l) off [.v (.int k x)] = ints k (l.set off x) := by
  apply List.ext_getElem?
  intro j
  rw [splice_get (by simp [ints_length]; omega)]
  simp only [List.length_singleton, ints, List.getElem?_map, List.getElem?_set]
  by_cases hj : off = j
  · subst hj
    simp [h]
  · rw [if_neg (by omega), if_neg hj]
/-- A row is written whole. -/
theorem splice_all {cs c : List AV} (h : c.length = cs.length) : splice cs 0 c = c := by
  simp [splice, h]
theorem ints_one (k : IntKind) (l : List Int) : (ints k l).all AV.one = true := by
  simp [ints, AV.one, Value.oneCell']
variable {P : Program} {G : Glob} {t : List AV} {H : AHeap} {Q : APost}
theorem lops_nil {q : Bool} {K : List AV → AHeap → Prop} (h : K t H) : lops P G q [] t H K := h
theorem lavc_reg {pre post : List LOp} (h : lops P G true pre t H fun t' H' => lops P G false post t' H' (Q .normal)) : lavc P G (.reg pre post) t H Q := lavc_reg0 (lreg_go h)
theorem lavc_reg_fz (bs : List Nat) {pre post : List LOp} (h : afz bs t H fun t H => lops P G true pre t H fun t' H' => lops P G false post t' H' (Q .normal)) : lavc P G (.reg pre post) t H Q := lavc_reg0 (lreg_fz bs h)
def lputs : List AV → List LOp → List AV → List AV
  | t, o :: ls, v :: vs => lputs (tput t o.d v) ls vs
  | t, _, _ => t
theorem lputs_length : ∀ (t : List AV) (ls : List LOp) (vs : List AV), (lputs t ls vs).length = t.length
  | t, o :: ls, v :: vs => by rw [lputs, lputs_length, tput_length]
  | t, [], _ => by simp [lputs]
  | t, _ :: _, [] => by simp [lputs]
theorem lputs_same : ∀ (t : List AV) (ls : List LOp) (vs : List AV) (s : Nat), (∀ o ∈ ls, o.d ≠ some s) → (lputs t ls vs).getD s .any = t.getD s .any
  | t, o :: ls, v :: vs, s, h => by
    rw [lputs, lputs_same _ ls vs s (fun p hp => h p (List.mem_cons_of_mem _ hp))]
    have hd := h o (List.mem_cons_self ..)
    cases hod : o.d with
    | none => rfl
    | some d =>
      rw [hod] at hd
      have hne : d ≠ s := fun e => hd (by rw [e])
      simp only [tput, List.getD_eq_getElem?_getD]
      rw [List.getElem?_set_ne hne]
  | t, [], _, _, _ => by simp [lputs]
  | t, _ :: _, [], _, _ => by simp [lputs]
/-- Late operations, whose results are told. -/
theorem lavc_late (hG : GN G) (vs : List AV) {ls pre mid post : List LOp} (hf : lfrees P G (lputs t ls vs) ls)
    (h : lops P G true pre (lputs t ls vs) H fun t' H' => lopsN P G mid t' H' fun t' H' => lopsN P G post t' H' (Q .normal)) : lavc P G (.regl ls pre mid post) t H Q :=
  lavc_regl hG _ (lputs_length _ _ _) (lputs_same _ _ _) hf h
theorem lavc_lateq (vs : List AV) {ls pre mid post : List LOp} (hf : lfreesAt P G (lputs t ls vs) ls H)
    (h : lops P G true pre (lputs t ls vs) H fun t' H' => lopsF P G (lfreesAt P G (lputs t ls vs) ls) mid t' H' fun t' H' => lopsN P G post t' H' (Q .normal)) : lavc P G (.regl ls pre mid post) t H Q :=
  lavc_regq _ (lputs_length _ _ _) (lputs_same _ _ _) hf h
theorem lopsF_step {F : AHeap → Prop} {o : LOp} {rest : List LOp} {t : List AV} {H : AHeap} {K : List AV → AHeap → Prop} (hF : F H)
    (h : ∀ K' : List AV → AHeap → Prop, (∀ t H, lopsF P G F rest t H K → K' t H) → lguard t o.g (aopO P G false (nxL rest) (aenv G t) H o.op fun r H' => K' (tput t o.d r) H') (K' (tput t o.d (.v undef)) H)) : lopsF P G F (o :: rest) t H K :=
  ⟨hF, h _ fun _ _ h => h⟩
theorem lopsF_nil {F : AHeap → Prop} {t : List AV} {H : AHeap} {K : List AV → AHeap → Prop} (hF : F H) (h : K t H) : lopsF P G F [] t H K := ⟨hF, h⟩
theorem ibits_or (k : IntKind) (x y : Int) : ibits .or k x y = bits .or k x y := rfl
theorem ibits_and (k : IntKind) (x y : Int) : ibits .and k x y = bits .and k x y := rfl
theorem ibits_xor (k : IntKind) (x y : Int) : ibits .xor k x y = bits .xor k x y := rfl
theorem i64n (n : Int) (m : Nat) (h : n = m) (hm : m ≤ 9223372036854775807) : IntKind.i64.wrap n = m := by rw [IntKind.wrap_i64]; omega
theorem i64z (n : Int) (h : -9223372036854775808 ≤ n ∧ n ≤ 9223372036854775807) : IntKind.i64.wrap n = n := by rw [IntKind.wrap_i64]; omega
theorem tmodN (a b : Nat) : (a : Int).tmod b = ((a % b : Nat) : Int) := Int.ofNat_tmod a b
theorem tdivN (a b : Nat) : (a : Int).tdiv b = ((a / b : Nat) : Int) := rfl
def blank (t : List AV) (ms : List Nat) : List AV := ms.foldl (fun t i => t.set i .any) t
def putAll (t : List AV) (l : List (Nat × AV)) : List AV := l.foldl (fun t p => t.set p.1 p.2) t
/-- A loop; ms: what its rounds turn; live: what of that is known at a round's begin. -/
theorem lavc_loopM {c : LCode} (ms : List Nat) {X : Type} (I : Nat → X → Prop) (live : X → List (Nat × AV)) (hp : X → AHeap) (n0 : Nat) (x0 : X) (h0 : I n0 x0) (ht : ALe t (putAll (blank t ms) (live x0))) (hh : H = hp x0)
    (h : ∀ n x, I n x → lavc P G c (putAll (blank t ms) (live x)) (hp x) fun e t' H' => match e with
      | .normal => ∃ n' x', n' < n ∧ I n' x' ∧ ALe t' (putAll (blank t ms) (live x')) ∧ H' = hp x'
      | e => Q e t' H') : lavc P G (.loop c) t H Q := lavc_loop0 I _ hp n0 x0 [] [] ⟨h0, ht, hh⟩ h
/-- Blocks are read only from here. -/
theorem lavc_fz (bs : List Nat) {c : LCode} (h : afz bs t H fun t H => lavc P G c t H Q) : lavc P G c t H Q := fun imp c0 hc hm ro nn σ0 H0 w0 σ a w s x => by
  obtain ⟨t', H', σ', h, s', x'⟩ := afz_ok h s
  exact h imp c0 hc hm ro nn σ0 H0 w0 σ' a w s' (x.trans x')
/-- Slices of nothing get blocks. -/
theorem lavc_gh (gs : List (Nat × Nat × TypeId)) {c : LCode} (h : agh gs t H fun t H => lavc P G c t H Q) : lavc P G c t H Q := fun imp c0 hc hm ro nn σ0 H0 w0 σ a w s x => by
  obtain ⟨t', H', h, s', x'⟩ := agh_ok h s
  exact h imp c0 hc hm ro nn σ0 H0 w0 σ a w s' (x.trans x')
/-- Ways that meet again; ms: what they turn; live: what of that is known where they meet. -/
theorem lavc_join {a : LCode} (ms : List Nat) {X : Type} (I : X → Prop) (live : X → List (Nat × AV)) (hp : X → AHeap)
    (h1 : lavc P G a t H fun e t' H' => match e with
      | .normal => ∃ x, I x ∧ ALe t' (putAll (blank t ms) (live x)) ∧ H' = hp x
      | e => Q e t' H') {b : LCode} (h2 : ∀ x, I x → lavc P G b (putAll (blank t ms) (live x)) (hp x) Q) : lavc P G a t H fun e t' H' => match e with
      | .normal => lavc P G b t' H' Q
      | e => Q e t' H' := lavc_mono h1 fun e t' H' h => by
  cases e with
  | normal =>
    obtain ⟨x, hx, hle, rfl⟩ := h
    exact lavc_weak (h2 x hx) hle
  | _ => exact h
/-- The same; ahead of it slices of nothing get blocks. -/
theorem lavc_loopG {c : LCode} (gs : List (Nat × Nat × TypeId)) (ms : List Nat) {X : Type} (I : Nat → X → Prop) (live : X → List (Nat × AV)) (hp : X → AHeap) (n0 : Nat) (x0 : X) (h0 : I n0 x0)
    (hg : agh gs t H fun t' H' => ALe t' (putAll (blank t ms) (live x0)) ∧ H' = hp x0)
    (h : ∀ n x, I n x → lavc P G c (putAll (blank t ms) (live x)) (hp x) fun e t' H' => match e with
      | .normal => ∃ n' x', n' < n ∧ I n' x' ∧ ALe t' (putAll (blank t ms) (live x')) ∧ H' = hp x'
      | e => Q e t' H') : lavc P G (.loop c) t H Q := lavc_loop0 I _ hp n0 x0 gs [] (agh_mono (fun _ _ h => ⟨h0, h.1, h.2⟩) hg) h
theorem lavc_reg_gh (gs : List (Nat × Nat × TypeId)) {pre post : List LOp} (h : agh gs t H fun t H => lops P G true pre t H fun t' H' => lops P G false post t' H' (Q .normal)) : lavc P G (.reg pre post) t H Q := lavc_reg0 ⟨gs, [], h⟩
theorem shlI_le (k : IntKind) (x n : Int) (h : n.toNat ≤ k.bits) : shlI k x n = k.wrap (x * 2 ^ n.toNat) := by rw [shlI, Nat.min_eq_left h]
theorem shrI_le (k : IntKind) (x n : Int) (h : n.toNat ≤ k.bits) : shrI k x n = x / 2 ^ n.toNat := by
  rw [shrI, Nat.min_eq_left h, Int.fdiv_eq_ediv_of_nonneg]
  exact Int.le_of_lt (Int.pow_pos (by decide))
theorem PCall.go {n : FuncId} {args : List AV} {r : AV} (h : PCall P G n args r) (H : AHeap) : ACall P G true n args H r H := h H
theorem MCall.go {n : FuncId} {args : List AV} {k k' : Blk} {r : AV} (h : MCall P G n args k r k') (H : AHeap) (b : Nat) (hb : H[b]? = some k) : ACall P G false n (.ptr b k.ver 0 :: args) H r (H.set b k') := h H b hb
theorem NCall.go {n : FuncId} {args : List AV} {e : TypeId} {len cap sz : Nat} {x : Bool} {cs : List AV} (h : NCall P G n args e len cap sz x cs) (H : AHeap) : ACall P G true n args H (.sl H.length 0 0 len cap sz x) (H ++ [⟨cs, 0, true, e⟩]) := h H
theorem rep_ints (k : IntKind) (n : Nat) : List.replicate n (AV.v (Value.int k 0)) = ints k (List.replicate n 0) := by simp [ints]
theorem splice_intsR (k : IntKind) (l m : List Int) (off : Nat) : splice (ints k l) off (ints k m) = ints k (l.take off ++ m ++ l.drop (off + m.length)) := by simp [splice, ints]
theorem splice_one {cs : List AV} {off : Nat} {v : AV} (h : off < cs.length) : splice cs off [v] = cs.set off v := by
  apply List.ext_getElem?
  intro j
  rw [splice_get (by simp; omega)]
  simp only [List.length_singleton, List.getElem?_set]
  by_cases hj : off = j
  · subst hj
    simp [h]
  · rw [if_neg (by omega), if_neg hj]
theorem ints_set (k : IntKind) (l : List Int) (off : Nat) (x : Int) : (ints k l).set off (.v (.int k x)) = ints k (l.set off x) := by simp [ints, List.map_set]
theorem rep_slice (n : Nat) (A : Option Addr) (a b : Nat) : List.replicate (n + 1) (AV.v (.slice A a b)) = AV.v (.slice A a b) :: List.replicate n (AV.v (.slice A a b)) := rfl
theorem rep_string (n : Nat) (s : ByteArray) : List.replicate (n + 1) (AV.v (.string s)) = AV.v (.string s) :: List.replicate n (AV.v (.string s)) := rfl
theorem rep_bool (n : Nat) (s : Bool) : List.replicate (n + 1) (AV.v (.bool s)) = AV.v (.bool s) :: List.replicate n (AV.v (.bool s)) := rfl
theorem rep_iface (n : Nat) : List.replicate (n + 1) (AV.v .nilIface) = AV.v .nilIface :: List.replicate n (AV.v .nilIface) := rfl
theorem fz_ints (b : Nat) (k : Blk) (i : IntKind) (l : List Int) : (ints i l).map (fzS b k) = ints i l := by simp [ints, fzS]
theorem Flat.ints (k : IntKind) (l : List Int) : ∀ c ∈ ints k l, Flat c := by
  intro c hc
  simp only [Go.Abs.ints, List.mem_map] at hc
  obtain ⟨n, _, rfl⟩ := hc
  exact .v _
/-- An owned row may be looked at by what it holds. -/
theorem NCall.view {n : FuncId} {args : List AV} {e : TypeId} {len cap sz : Nat} {x : Bool} {cs : List AV} (hG : GN G) (h : NCall P G n args e len cap sz x cs) (hargs : ∀ a ∈ args, NR a) (hcs : ∀ c ∈ cs, NR c) (hc : len ≤ cap) (hf : len * sz ≤ cs.length) : PCall P G n args (.vsl len (cs.take (len * sz)) none) := by
  refine PCall.of hG hargs (NR.vsl fun c hc => hcs c (List.mem_of_mem_take hc)) ⟨(h []).1, fun σ w us h1 h2 rel => ((h []).2 σ w us h1 h2 rel).mono fun e' w' ⟨u, he, σ', a1, a2, a3, _⟩ => ⟨u, he, ?_⟩⟩
  have := Res.cut hG rel a2 a3 (lo := 0) (Nat.le_refl _) (Nat.zero_le _) (rv := .sl 0 0 0 len cap sz x) (r' := .vsl len (cs.take (len * sz)) none) (View.sl (k := ⟨cs, 0, true, e⟩) (Nat.zero_le _) rfl rfl rfl hc (by simpa using hf) hcs) a1 (fun b k hb => absurd hb (Nat.not_lt_zero _))
  simpa using this
/-- A call's end. -/
def Fin (lo : Nat) (H : AHeap) (r r0 : AV) (H0' : AHeap) : Prop := View lo H r r0 ∧ lo ≤ H.length ∧ (∀ (b : Nat) (k : Blk), b < lo → H[b]? = some k → ∀ c ∈ k.cells, NR c) ∧ H.take lo = H0'
theorem end0 {r r0 : AV} (hr : NR r0) (h : r = r0) : Fin 0 H r r0 [] :=
  ⟨h ▸ .nr (h ▸ hr), Nat.zero_le _, fun b k hb => absurd hb (Nat.not_lt_zero _), List.take_zero⟩
theorem endS {b ver off len cap sz : Nat} {x : Bool} {k : Blk} {cs : List AV} (hk : H[b]? = some k) (hl : k.live = true) (hv : k.ver = ver) (hc : len ≤ cap) (hf : off + len * sz ≤ k.cells.length) (hn : ∀ c ∈ k.cells, NR c) (h : (k.cells.drop off).take (len * sz) = cs) :
    Fin 0 H (.sl b ver off len cap sz x) (.vsl len cs none) [] :=
  ⟨h ▸ .sl (Nat.zero_le _) hk hl hv hc hf hn, Nat.zero_le _, fun b k hb => absurd hb (Nat.not_lt_zero _), List.take_zero⟩
theorem end1 {r r0 : AV} {k k' : Blk} (hr : NR r0) (h : r = r0) (hn : ∀ c ∈ k'.cells, NR c) (hk : k = k') : Fin 1 (k :: H) r r0 [k'] := by
  subst hk
  refine ⟨h ▸ .nr (h ▸ hr), by simp, fun b k1 hb h1 => ?_, rfl⟩
  have : b = 0 := by omega
  subst this
  cases h1
  exact hn
/-- An owned row, which alone is handed out. -/
theorem endN {ver off len cap sz : Nat} {x : Bool} {k k' : Blk} (hn : ∀ c ∈ k'.cells, NR c) (hk : k = k') : Fin 1 (k :: H) (.sl 0 ver off len cap sz x) (.sl 0 ver off len cap sz x) [k'] := by
  subst hk
  refine ⟨.keep (by omega), by simp, fun b k1 hb h1 => ?_, rfl⟩
  have : b = 0 := by omega
  subst this
  cases h1
  exact hn
theorem NR.tup0 : NR (.tup []) := NR.tup (by simp)
/-- A row of numbers that was written is handed out to be read. -/
theorem endI {b ver n cap : Nat} {x : Bool} {kd : IntKind} {l : List Int} {e : TypeId} (hk : H[b]? = some ⟨ints kd l, ver, true, e⟩) (hl : l.length = n) (hc : n ≤ cap) : Fin 0 H (.sl b ver 0 n cap 1 x) (.vsl n (ints kd l) none) [] := by
  subst hl
  exact endS hk rfl rfl hc (by simp [ints_length]) (NR.ints _ _) (by simp [List.take_of_length_le, ints_length])
theorem set_concat {α : Type} (l : List α) (a b : α) : (l ++ [a]).set l.length b = l ++ [b] := by
  simp
theorem get_concat {α : Type} (l : List α) (a : α) : (l ++ [a])[l.length]? = some a := by simp
/-- What is handed out beside other values. -/
theorem viewI {b ver n cap m : Nat} {x : Bool} {kd : IntKind} {l : List Int} {e : TypeId} {lo : Nat} (hlo : lo ≤ b) (hk : H[b]? = some ⟨ints kd l, ver, true, e⟩) (hl : n ≤ l.length) (hc : n ≤ cap) : View lo H (.sl b ver 0 n cap 1 x) (.vsl n (ints kd (l.take n)) none) := by
  have := View.sl (x := x) (off := 0) (len := n) (cap := cap) (sz := 1) hlo hk rfl rfl hc (by simp [ints_length]; omega) (NR.ints kd l)
  simpa [ints_take] using this
theorem view2 {lo : Nat} {a b a' b' : AV} (h1 : View lo H a a') (h2 : View lo H b b') : View lo H (.tup [a, b]) (.tup [a', b']) := by
  refine .tup rfl (fun j hj => ?_)
  match j, hj with
  | 0, _ => exact h1
  | 1, _ => exact h2
theorem endV {r r0 : AV} (h : View 0 H r r0) : Fin 0 H r r0 [] := ⟨h, Nat.zero_le _, fun b k hb => absurd hb (Nat.not_lt_zero _), List.take_zero⟩
/-- A block, looked at otherwise. -/
theorem Rel.look {σ : Sig} {w : World} (r : Rel G σ H w) {b : Nat} {k : Blk} (hk : H[b]? = some k) (cs : List AV) (hl : cs.length = k.cells.length) (h : ∀ j u, j < cs.length → AR σ w (k.cells.getD j .any) u → AR σ w (cs.getD j .any) u) :
    Rel G σ (H.set b { k with cells := cs }) w ∧ Ext σ H w σ (H.set b { k with cells := cs }) w := by
  have hlt : b < H.length := (List.getElem?_eq_some_iff.1 hk).1
  have hget : ∀ (b' : Nat) (k' : Blk), (H.set b { k with cells := cs })[b']? = some k' → H[b']? = some k' ∨ (b' = b ∧ k' = { k with cells := cs }) := by
    intro b' k' h
    rw [List.getElem?_set] at h
    split at h
    · rename_i e
      subst e
      try rw [if_pos hlt] at h
      exact .inr ⟨rfl, (Option.some.inj h).symm⟩
    · exact .inl h
  have hold : ∀ (b' : Nat) (k' : Blk), (H.set b { k with cells := cs })[b']? = some k' → ∃ k0, H[b']? = some k0 ∧ k0.live = k'.live ∧ k0.ver = k'.ver := by
    intro b' k' h
    rcases hget b' k' h with h | ⟨rfl, rfl⟩
    · exact ⟨k', h, rfl, rfl⟩
    · exact ⟨k, hk, rfl, rfl⟩
  refine ⟨⟨?_, ?_, ?_, r.roLt, ?_, r.glob, r.base0⟩, ⟨rfl, rfl, rfl, Nat.le_refl _, fun _ _ _ h => h, fun _ h => h, fun _ _ _ => rfl, fun _ _ _ h => .inl h, ?_, fun B h => .inl h, by simp⟩⟩
  · intro b' k' l h1 h2 h3
    rcases hget b' k' h1 with h4 | ⟨rfl, rfl⟩
    · exact r.blk b' k' l h4 h2 h3
    · obtain ⟨C, fr, c1, c2, c3, c4, c5⟩ := r.blk b' k l hk h2 h3
      refine ⟨C, fr, c1, c2, by rw [hl]; exact c3, c4, fun j hj => ?_⟩
      obtain ⟨u, d1, d2⟩ := c5 j (hl ▸ hj)
      exact ⟨u, d1, h j u hj d2⟩
  · intro b1 b2 k1 k2 l1 l2 h1 h2 h3 g1 g2 g3 e
    obtain ⟨k1', a1, a2, a3⟩ := hold _ _ h1
    obtain ⟨k2', c1, c2, c3⟩ := hold _ _ g1
    exact r.inj b1 b2 k1' k2' l1 l2 a1 (a2.trans h2) (by rw [a3]; exact h3) c1 (c2.trans g2) (by rw [c3]; exact g3) e
  · intro b' k' l h1 h2 h3
    obtain ⟨k0, a1, a2, a3⟩ := hold _ _ h1
    exact r.apart b' k0 l a1 (a2.trans h2) (by rw [a3]; exact h3)
  · intro b' ver l h1
    obtain ⟨k0, a1, a2⟩ := r.fresh b' ver l h1
    by_cases e : b' = b
    · subst e
      rw [hk] at a1
      cases a1
      exact ⟨_, List.getElem?_set_self hlt, a2⟩
    · exact ⟨k0, by rw [List.getElem?_set_ne (fun e' => e e'.symm)]; exact a1, a2⟩
  · intro b' k' l h1 h2 h3
    obtain ⟨k0, a1, a2, a3⟩ := hold _ _ h1
    exact ⟨k0, a1, a2.trans h2, a3⟩
/-- A builder that was made just now. -/
theorem lavc_bld (b : Nat) (e : TypeId) {c : LCode} {k : Blk} (hk : H[b]? = some k) (hc : k.cells = [.v (.pointer none), .v (.slice none 0 0)]) (h : lavc P G c t (H.set b ⟨[.bad b k.ver, .bsl H.length 0 0], k.ver, k.live, k.elem⟩ ++ [⟨ints .u8 [], 0, true, e⟩]) Q) : lavc P G c t H Q := fun imp c0 hc0 hm ro nn σ0 H0 w0 σ a w s x => by
  obtain ⟨r1, x1⟩ := s.rel.look hk [.bad b k.ver, .bsl H.length 0 0] (by rw [hc]; rfl) (fun j u hj hu => by
    rw [hc] at hu
    match j, hj with
    | 0, _ =>
      simp only [List.getD_cons_zero] at hu ⊢
      cases hu
      exact .bad0
    | 1, _ =>
      simp only [List.getD_cons_zero, List.getD_cons_succ] at hu ⊢
      cases hu
      exact .bsl0)
  obtain ⟨r2, x2⟩ := r1.ghost ⟨ints .u8 [], 0, true, e⟩
  exact h imp c0 hc0 hm ro nn σ0 H0 w0 σ a w ⟨s.defers, s.size, s.tmps, r2⟩ (x.trans (x1.trans x2))
/-- A loop, round by round. -/
def lavcR (P : Program) (G : Glob) (c : LCode) (Q : APost) : Nat → List AV → AHeap → Prop
  | 0, _, _ => False
  | n + 1, t, H => lavc P G c t H fun e t' H' => match e with
    | .normal => lavcR P G c Q n t' H'
    | e => Q e t' H'
theorem lavcR_round {c : LCode} {n : Nat} (h : lavc P G c t H fun e t' H' => match e with
    | .normal => lavcR P G c Q n t' H'
    | e => Q e t' H') : lavcR P G c Q (n + 1) t H := h
theorem lavc_rounds (n : Nat) {c : LCode} (h : lavcR P G c Q n t H) : lavc P G (.loop c) t H Q := fun imp c0 hc hm ro nn σ0 H0 w0 σ a w s x => by
  cases c0 with
  | loop c' =>
    simp only [strip, LCode.loop.injEq] at hc
    have key : ∀ (n : Nat) (t : List AV) (H : AHeap) (σ : Sig) (a : Act) (w : World), lavcR P G c Q n t H → Sim G σ t H a w → Ext σ0 H0 w0 σ H w → Code.roundsIn (wr ro) nn P c' (CPost G σ0 H0 w0 Q) n a w := by
      intro n
      induction n with
      | zero => exact fun t H σ a w h _ _ => h.elim
      | succ n ih =>
        intro t H σ a w h s x
        refine Code.wpIn_mono (fun e a2 w2 hq => ?_) (h imp c' hc hm ro nn σ0 H0 w0 σ a w s x)
        obtain ⟨t2, H2, σ2, k1, k2, k3⟩ := hq
        cases e with
        | normal => exact ih _ _ _ _ _ k1 k2 k3
        | _ => exact ⟨t2, H2, σ2, k1, k2, k3⟩
    exact wpIn_loop_rounds n (key n t H σ a w h s x)
  | region id ops draw => rcases no_reg hc with ⟨_, _, e⟩ | ⟨_, _, _, _, e⟩ | e <;> cases e
  | _ => simp only [strip, reduceCtorEq] at hc
theorem lavc_condT {c : Operand} {a b : LCode} (hx : aenv G t c = .v (.bool true)) (h : lavc P G a t H Q) : lavc P G (.cond c a b) t H Q := lavc_cond hx (fun _ => h) (fun e => by cases e)
theorem lavc_condF {c : Operand} {a b : LCode} (hx : aenv G t c = .v (.bool false)) (h : lavc P G b t H Q) : lavc P G (.cond c a b) t H Q := lavc_cond hx (fun e => by cases e) (fun _ => h)
/-- Side conditions: their proofs are looked for where they are used. -/
theorem dch {p : Prop} (h : p := by first | omega | (simp only [go_sem, isRow, isFlat, Option.isSome_some]; done) | assumption | (simp only [ints_length, List.length_replicate, List.length_set, List.length_append, List.length_take, List.length_drop, List.length_cons, List.length_nil] <;> omega) | fail) : p := h
theorem acl {p : Prop} (h : p := by first | omega | rfl | assumption | decide) : p := h
theorem nrs {l : List AV} (h : ∀ c ∈ l, NR c := by (repeat (refine List.forall_mem_cons.2 (And.intro (by first | exact NR.v _ | exact NR.agg (NR.ints _ _) | exact NR.vsl (NR.ints _ _) | exact NR.vptr (NR.ints _ _) | assumption) ?_))); exact fun _ h => absurd h List.not_mem_nil) : ∀ c ∈ l, NR c := h
/-- What is still to be shown. -/
structure Go1 (p : Prop) : Prop where
  out : p
theorem an {a b : Prop} (x : a) (y : b) : a ∧ b := ⟨x, y⟩
theorem tt : True := trivial
theorem gr1 {p g L C D E : Prop} (l : L) (c : C) (d : D) (e : E) (q : Go1 g) (h : L → C → D → E → Go1 g → p := by
  intro l c d e q
  repeat (first
    | (with_reducible refine lops_step fun K hK => ?_; simp (disch := first | exact dch | fail) only [go_sem, Nat.reduceAdd, Nat.reduceSub, reduceIte, Nat.reduceEqDiff, Int.reduceToNat, Int.reduceBEq, Int.reduceBNe, l]; (repeat (with_reducible refine And.intro acl ?_)); (first | (refine hK _ _ ?_) | (refine ⟨_, rfl, hK _ _ ?_⟩) | (refine Or.inl (hK _ _ ?_)) | (refine ⟨_, _, Or.inl (c.1 _), (by first | exact ⟨[], (List.append_nil _).symm⟩ | exact ⟨_, rfl⟩), hK _ _ ?_⟩) | (refine ⟨_, _, Or.inl (c.1 _), hK _ _ ?_⟩) | (refine ⟨_, _, Or.inl (c.1 _).weakQ, hK _ _ ?_⟩) | (refine ⟨_, _, Or.inl (c.2.1 _), (by first | exact ⟨[], (List.append_nil _).symm⟩ | exact ⟨_, rfl⟩), hK _ _ ?_⟩) | (refine ⟨_, _, Or.inl (c.2.1 _), hK _ _ ?_⟩) | (refine ⟨_, _, Or.inl (c.2.1 _).weakQ, hK _ _ ?_⟩) | (refine ⟨_, _, Or.inl (c.2.2.1 _), (by first | exact ⟨[], (List.append_nil _).symm⟩ | exact ⟨_, rfl⟩), hK _ _ ?_⟩) | (refine ⟨_, _, Or.inl (c.2.2.1 _), hK _ _ ?_⟩) | (refine ⟨_, _, Or.inl (c.2.2.1 _).weakQ, hK _ _ ?_⟩) | (refine ⟨_, _, Or.inl (c.2.2.2.1 _), (by first | exact ⟨[], (List.append_nil _).symm⟩ | exact ⟨_, rfl⟩), hK _ _ ?_⟩) | (refine ⟨_, _, Or.inl (c.2.2.2.1 _), hK _ _ ?_⟩) | (refine ⟨_, _, Or.inl (c.2.2.2.1 _).weakQ, hK _ _ ?_⟩) | (refine ⟨_, _, Or.inl (c.2.2.2.2.1 _), (by first | exact ⟨[], (List.append_nil _).symm⟩ | exact ⟨_, rfl⟩), hK _ _ ?_⟩) | (refine ⟨_, _, Or.inl (c.2.2.2.2.1 _), hK _ _ ?_⟩) | (refine ⟨_, _, Or.inl (c.2.2.2.2.1 _).weakQ, hK _ _ ?_⟩) | (refine ⟨_, _, Or.inl (c.2.2.2.2.2.1 _), (by first | exact ⟨[], (List.append_nil _).symm⟩ | exact ⟨_, rfl⟩), hK _ _ ?_⟩) | (refine ⟨_, _, Or.inl (c.2.2.2.2.2.1 _), hK _ _ ?_⟩) | (refine ⟨_, _, Or.inl (c.2.2.2.2.2.1 _).weakQ, hK _ _ ?_⟩) | (refine ⟨_, _, Or.inl (c.2.2.2.2.2.2.1 _), (by first | exact ⟨[], (List.append_nil _).symm⟩ | exact ⟨_, rfl⟩), hK _ _ ?_⟩) | (refine ⟨_, _, Or.inl (c.2.2.2.2.2.2.1 _), hK _ _ ?_⟩) | (refine ⟨_, _, Or.inl (c.2.2.2.2.2.2.1 _).weakQ, hK _ _ ?_⟩) | (refine ⟨_, _, Or.inl (c.2.2.2.2.2.2.2.1 _), (by first | exact ⟨[], (List.append_nil _).symm⟩ | exact ⟨_, rfl⟩), hK _ _ ?_⟩) | (refine ⟨_, _, Or.inl (c.2.2.2.2.2.2.2.1 _), hK _ _ ?_⟩) | (refine ⟨_, _, Or.inl (c.2.2.2.2.2.2.2.1 _).weakQ, hK _ _ ?_⟩) | (refine ⟨_, _, Or.inl (d.1 _ _), (by first | exact ⟨[], (List.append_nil _).symm⟩ | exact ⟨_, rfl⟩), hK _ _ ?_⟩) | (refine ⟨_, _, Or.inl (d.1 _ _), hK _ _ ?_⟩) | (refine ⟨_, _, Or.inl (d.1 _ _).weakQ, hK _ _ ?_⟩) | (refine ⟨_, _, Or.inl (d.1 _ _ rfl), (by first | exact ⟨[], (List.append_nil _).symm⟩ | exact ⟨_, rfl⟩), hK _ _ ?_⟩) | (refine ⟨_, _, Or.inl (d.1 _ _ rfl), hK _ _ ?_⟩) | (refine ⟨_, _, Or.inl (d.1 _ _ rfl).weakQ, hK _ _ ?_⟩) | (refine ⟨_, _, Or.inl (d.1 _ _ _), (by first | exact ⟨[], (List.append_nil _).symm⟩ | exact ⟨_, rfl⟩), hK _ _ ?_⟩) | (refine ⟨_, _, Or.inl (d.1 _ _ _), hK _ _ ?_⟩) | (refine ⟨_, _, Or.inl (d.1 _ _ _).weakQ, hK _ _ ?_⟩) | (refine ⟨_, _, Or.inl (d.1 _ _ _ _), (by first | exact ⟨[], (List.append_nil _).symm⟩ | exact ⟨_, rfl⟩), hK _ _ ?_⟩) | (refine ⟨_, _, Or.inl (d.1 _ _ _ _), hK _ _ ?_⟩) | (refine ⟨_, _, Or.inl (d.1 _ _ _ _).weakQ, hK _ _ ?_⟩) | (refine ⟨_, _, Or.inl (d.2.1 _ _), (by first | exact ⟨[], (List.append_nil _).symm⟩ | exact ⟨_, rfl⟩), hK _ _ ?_⟩) | (refine ⟨_, _, Or.inl (d.2.1 _ _), hK _ _ ?_⟩) | (refine ⟨_, _, Or.inl (d.2.1 _ _).weakQ, hK _ _ ?_⟩) | (refine ⟨_, _, Or.inl (d.2.1 _ _ rfl), (by first | exact ⟨[], (List.append_nil _).symm⟩ | exact ⟨_, rfl⟩), hK _ _ ?_⟩) | (refine ⟨_, _, Or.inl (d.2.1 _ _ rfl), hK _ _ ?_⟩) | (refine ⟨_, _, Or.inl (d.2.1 _ _ rfl).weakQ, hK _ _ ?_⟩) | (refine ⟨_, _, Or.inl (d.2.1 _ _ _), (by first | exact ⟨[], (List.append_nil _).symm⟩ | exact ⟨_, rfl⟩), hK _ _ ?_⟩) | (refine ⟨_, _, Or.inl (d.2.1 _ _ _), hK _ _ ?_⟩) | (refine ⟨_, _, Or.inl (d.2.1 _ _ _).weakQ, hK _ _ ?_⟩) | (refine ⟨_, _, Or.inl (d.2.1 _ _ _ _), (by first | exact ⟨[], (List.append_nil _).symm⟩ | exact ⟨_, rfl⟩), hK _ _ ?_⟩) | (refine ⟨_, _, Or.inl (d.2.1 _ _ _ _), hK _ _ ?_⟩) | (refine ⟨_, _, Or.inl (d.2.1 _ _ _ _).weakQ, hK _ _ ?_⟩) | (refine ⟨_, _, Or.inl (d.2.2.1 _ _), (by first | exact ⟨[], (List.append_nil _).symm⟩ | exact ⟨_, rfl⟩), hK _ _ ?_⟩) | (refine ⟨_, _, Or.inl (d.2.2.1 _ _), hK _ _ ?_⟩) | (refine ⟨_, _, Or.inl (d.2.2.1 _ _).weakQ, hK _ _ ?_⟩) | (refine ⟨_, _, Or.inl (d.2.2.1 _ _ rfl), (by first | exact ⟨[], (List.append_nil _).symm⟩ | exact ⟨_, rfl⟩), hK _ _ ?_⟩) | (refine ⟨_, _, Or.inl (d.2.2.1 _ _ rfl), hK _ _ ?_⟩) | (refine ⟨_, _, Or.inl (d.2.2.1 _ _ rfl).weakQ, hK _ _ ?_⟩) | (refine ⟨_, _, Or.inl (d.2.2.1 _ _ _), (by first | exact ⟨[], (List.append_nil _).symm⟩ | exact ⟨_, rfl⟩), hK _ _ ?_⟩) | (refine ⟨_, _, Or.inl (d.2.2.1 _ _ _), hK _ _ ?_⟩) | (refine ⟨_, _, Or.inl (d.2.2.1 _ _ _).weakQ, hK _ _ ?_⟩) | (refine ⟨_, _, Or.inl (d.2.2.1 _ _ _ _), (by first | exact ⟨[], (List.append_nil _).symm⟩ | exact ⟨_, rfl⟩), hK _ _ ?_⟩) | (refine ⟨_, _, Or.inl (d.2.2.1 _ _ _ _), hK _ _ ?_⟩) | (refine ⟨_, _, Or.inl (d.2.2.1 _ _ _ _).weakQ, hK _ _ ?_⟩) | (refine ⟨_, _, Or.inl (d.2.2.2.1 _ _), (by first | exact ⟨[], (List.append_nil _).symm⟩ | exact ⟨_, rfl⟩), hK _ _ ?_⟩) | (refine ⟨_, _, Or.inl (d.2.2.2.1 _ _), hK _ _ ?_⟩) | (refine ⟨_, _, Or.inl (d.2.2.2.1 _ _).weakQ, hK _ _ ?_⟩) | (refine ⟨_, _, Or.inl (d.2.2.2.1 _ _ rfl), (by first | exact ⟨[], (List.append_nil _).symm⟩ | exact ⟨_, rfl⟩), hK _ _ ?_⟩) | (refine ⟨_, _, Or.inl (d.2.2.2.1 _ _ rfl), hK _ _ ?_⟩) | (refine ⟨_, _, Or.inl (d.2.2.2.1 _ _ rfl).weakQ, hK _ _ ?_⟩) | (refine ⟨_, _, Or.inl (d.2.2.2.1 _ _ _), (by first | exact ⟨[], (List.append_nil _).symm⟩ | exact ⟨_, rfl⟩), hK _ _ ?_⟩) | (refine ⟨_, _, Or.inl (d.2.2.2.1 _ _ _), hK _ _ ?_⟩) | (refine ⟨_, _, Or.inl (d.2.2.2.1 _ _ _).weakQ, hK _ _ ?_⟩) | (refine ⟨_, _, Or.inl (d.2.2.2.1 _ _ _ _), (by first | exact ⟨[], (List.append_nil _).symm⟩ | exact ⟨_, rfl⟩), hK _ _ ?_⟩) | (refine ⟨_, _, Or.inl (d.2.2.2.1 _ _ _ _), hK _ _ ?_⟩) | (refine ⟨_, _, Or.inl (d.2.2.2.1 _ _ _ _).weakQ, hK _ _ ?_⟩) | (refine ⟨_, _, Or.inr ⟨e.1 _, rfl⟩, (by first | exact ⟨[], (List.append_nil _).symm⟩ | exact ⟨_, rfl⟩), hK _ _ ?_⟩) | (refine ⟨_, _, Or.inr ⟨e.1 _, rfl⟩, hK _ _ ?_⟩) | (refine ⟨_, _, Or.inr ⟨e.2.1 _, rfl⟩, (by first | exact ⟨[], (List.append_nil _).symm⟩ | exact ⟨_, rfl⟩), hK _ _ ?_⟩) | (refine ⟨_, _, Or.inr ⟨e.2.1 _, rfl⟩, hK _ _ ?_⟩)); clear hK K)
    | (with_reducible refine lops_nil ?_)
    | (simp only [↓reduceIte, Nat.reduceEqDiff, reduceCtorEq]))
  exact q.out) : p := h l c d e q
theorem grc1 {p g L C D E : Prop} (l : L) (c : C) (d : D) (e : E) (q : Go1 g) (h : L → C → D → E → Go1 g → p := by
  intro l c d e q
  repeat (first
    | (with_reducible refine lops_step fun K hK => ?_; simp (disch := first | exact dch | fail) only [go_sem, Nat.reduceAdd, Nat.reduceSub, reduceIte, Nat.reduceEqDiff, Int.reduceToNat, Int.reduceBEq, Int.reduceBNe, l]; (try (first | (refine And.intro (fun _ => ?_) (fun h => absurd h (by decide))) | (refine And.intro (fun h => absurd h (by decide)) (fun _ => ?_)))); (repeat (with_reducible refine And.intro acl ?_)); (first | (refine hK _ _ ?_) | (refine ⟨_, rfl, hK _ _ ?_⟩) | (refine Or.inl (hK _ _ ?_)) | (refine ⟨_, _, Or.inl (c.1 _), (by first | exact ⟨[], (List.append_nil _).symm⟩ | exact ⟨_, rfl⟩), hK _ _ ?_⟩) | (refine ⟨_, _, Or.inl (c.1 _), hK _ _ ?_⟩) | (refine ⟨_, _, Or.inl (c.1 _).weakQ, hK _ _ ?_⟩) | (refine ⟨_, _, Or.inl (c.2.1 _), (by first | exact ⟨[], (List.append_nil _).symm⟩ | exact ⟨_, rfl⟩), hK _ _ ?_⟩) | (refine ⟨_, _, Or.inl (c.2.1 _), hK _ _ ?_⟩) | (refine ⟨_, _, Or.inl (c.2.1 _).weakQ, hK _ _ ?_⟩) | (refine ⟨_, _, Or.inl (c.2.2.1 _), (by first | exact ⟨[], (List.append_nil _).symm⟩ | exact ⟨_, rfl⟩), hK _ _ ?_⟩) | (refine ⟨_, _, Or.inl (c.2.2.1 _), hK _ _ ?_⟩) | (refine ⟨_, _, Or.inl (c.2.2.1 _).weakQ, hK _ _ ?_⟩) | (refine ⟨_, _, Or.inl (c.2.2.2.1 _), (by first | exact ⟨[], (List.append_nil _).symm⟩ | exact ⟨_, rfl⟩), hK _ _ ?_⟩) | (refine ⟨_, _, Or.inl (c.2.2.2.1 _), hK _ _ ?_⟩) | (refine ⟨_, _, Or.inl (c.2.2.2.1 _).weakQ, hK _ _ ?_⟩) | (refine ⟨_, _, Or.inl (c.2.2.2.2.1 _), (by first | exact ⟨[], (List.append_nil _).symm⟩ | exact ⟨_, rfl⟩), hK _ _ ?_⟩) | (refine ⟨_, _, Or.inl (c.2.2.2.2.1 _), hK _ _ ?_⟩) | (refine ⟨_, _, Or.inl (c.2.2.2.2.1 _).weakQ, hK _ _ ?_⟩) | (refine ⟨_, _, Or.inl (c.2.2.2.2.2.1 _), (by first | exact ⟨[], (List.append_nil _).symm⟩ | exact ⟨_, rfl⟩), hK _ _ ?_⟩) | (refine ⟨_, _, Or.inl (c.2.2.2.2.2.1 _), hK _ _ ?_⟩) | (refine ⟨_, _, Or.inl (c.2.2.2.2.2.1 _).weakQ, hK _ _ ?_⟩) | (refine ⟨_, _, Or.inl (c.2.2.2.2.2.2.1 _), (by first | exact ⟨[], (List.append_nil _).symm⟩ | exact ⟨_, rfl⟩), hK _ _ ?_⟩) | (refine ⟨_, _, Or.inl (c.2.2.2.2.2.2.1 _), hK _ _ ?_⟩) | (refine ⟨_, _, Or.inl (c.2.2.2.2.2.2.1 _).weakQ, hK _ _ ?_⟩) | (refine ⟨_, _, Or.inl (c.2.2.2.2.2.2.2.1 _), (by first | exact ⟨[], (List.append_nil _).symm⟩ | exact ⟨_, rfl⟩), hK _ _ ?_⟩) | (refine ⟨_, _, Or.inl (c.2.2.2.2.2.2.2.1 _), hK _ _ ?_⟩) | (refine ⟨_, _, Or.inl (c.2.2.2.2.2.2.2.1 _).weakQ, hK _ _ ?_⟩) | (refine ⟨_, _, Or.inl (d.1 _ _), (by first | exact ⟨[], (List.append_nil _).symm⟩ | exact ⟨_, rfl⟩), hK _ _ ?_⟩) | (refine ⟨_, _, Or.inl (d.1 _ _), hK _ _ ?_⟩) | (refine ⟨_, _, Or.inl (d.1 _ _).weakQ, hK _ _ ?_⟩) | (refine ⟨_, _, Or.inl (d.1 _ _ rfl), (by first | exact ⟨[], (List.append_nil _).symm⟩ | exact ⟨_, rfl⟩), hK _ _ ?_⟩) | (refine ⟨_, _, Or.inl (d.1 _ _ rfl), hK _ _ ?_⟩) | (refine ⟨_, _, Or.inl (d.1 _ _ rfl).weakQ, hK _ _ ?_⟩) | (refine ⟨_, _, Or.inl (d.1 _ _ _), (by first | exact ⟨[], (List.append_nil _).symm⟩ | exact ⟨_, rfl⟩), hK _ _ ?_⟩) | (refine ⟨_, _, Or.inl (d.1 _ _ _), hK _ _ ?_⟩) | (refine ⟨_, _, Or.inl (d.1 _ _ _).weakQ, hK _ _ ?_⟩) | (refine ⟨_, _, Or.inl (d.1 _ _ _ _), (by first | exact ⟨[], (List.append_nil _).symm⟩ | exact ⟨_, rfl⟩), hK _ _ ?_⟩) | (refine ⟨_, _, Or.inl (d.1 _ _ _ _), hK _ _ ?_⟩) | (refine ⟨_, _, Or.inl (d.1 _ _ _ _).weakQ, hK _ _ ?_⟩) | (refine ⟨_, _, Or.inl (d.2.1 _ _), (by first | exact ⟨[], (List.append_nil _).symm⟩ | exact ⟨_, rfl⟩), hK _ _ ?_⟩) | (refine ⟨_, _, Or.inl (d.2.1 _ _), hK _ _ ?_⟩) | (refine ⟨_, _, Or.inl (d.2.1 _ _).weakQ, hK _ _ ?_⟩) | (refine ⟨_, _, Or.inl (d.2.1 _ _ rfl), (by first | exact ⟨[], (List.append_nil _).symm⟩ | exact ⟨_, rfl⟩), hK _ _ ?_⟩) | (refine ⟨_, _, Or.inl (d.2.1 _ _ rfl), hK _ _ ?_⟩) | (refine ⟨_, _, Or.inl (d.2.1 _ _ rfl).weakQ, hK _ _ ?_⟩) | (refine ⟨_, _, Or.inl (d.2.1 _ _ _), (by first | exact ⟨[], (List.append_nil _).symm⟩ | exact ⟨_, rfl⟩), hK _ _ ?_⟩) | (refine ⟨_, _, Or.inl (d.2.1 _ _ _), hK _ _ ?_⟩) | (refine ⟨_, _, Or.inl (d.2.1 _ _ _).weakQ, hK _ _ ?_⟩) | (refine ⟨_, _, Or.inl (d.2.1 _ _ _ _), (by first | exact ⟨[], (List.append_nil _).symm⟩ | exact ⟨_, rfl⟩), hK _ _ ?_⟩) | (refine ⟨_, _, Or.inl (d.2.1 _ _ _ _), hK _ _ ?_⟩) | (refine ⟨_, _, Or.inl (d.2.1 _ _ _ _).weakQ, hK _ _ ?_⟩) | (refine ⟨_, _, Or.inl (d.2.2.1 _ _), (by first | exact ⟨[], (List.append_nil _).symm⟩ | exact ⟨_, rfl⟩), hK _ _ ?_⟩) | (refine ⟨_, _, Or.inl (d.2.2.1 _ _), hK _ _ ?_⟩) | (refine ⟨_, _, Or.inl (d.2.2.1 _ _).weakQ, hK _ _ ?_⟩) | (refine ⟨_, _, Or.inl (d.2.2.1 _ _ rfl), (by first | exact ⟨[], (List.append_nil _).symm⟩ | exact ⟨_, rfl⟩), hK _ _ ?_⟩) | (refine ⟨_, _, Or.inl (d.2.2.1 _ _ rfl), hK _ _ ?_⟩) | (refine ⟨_, _, Or.inl (d.2.2.1 _ _ rfl).weakQ, hK _ _ ?_⟩) | (refine ⟨_, _, Or.inl (d.2.2.1 _ _ _), (by first | exact ⟨[], (List.append_nil _).symm⟩ | exact ⟨_, rfl⟩), hK _ _ ?_⟩) | (refine ⟨_, _, Or.inl (d.2.2.1 _ _ _), hK _ _ ?_⟩) | (refine ⟨_, _, Or.inl (d.2.2.1 _ _ _).weakQ, hK _ _ ?_⟩) | (refine ⟨_, _, Or.inl (d.2.2.1 _ _ _ _), (by first | exact ⟨[], (List.append_nil _).symm⟩ | exact ⟨_, rfl⟩), hK _ _ ?_⟩) | (refine ⟨_, _, Or.inl (d.2.2.1 _ _ _ _), hK _ _ ?_⟩) | (refine ⟨_, _, Or.inl (d.2.2.1 _ _ _ _).weakQ, hK _ _ ?_⟩) | (refine ⟨_, _, Or.inl (d.2.2.2.1 _ _), (by first | exact ⟨[], (List.append_nil _).symm⟩ | exact ⟨_, rfl⟩), hK _ _ ?_⟩) | (refine ⟨_, _, Or.inl (d.2.2.2.1 _ _), hK _ _ ?_⟩) | (refine ⟨_, _, Or.inl (d.2.2.2.1 _ _).weakQ, hK _ _ ?_⟩) | (refine ⟨_, _, Or.inl (d.2.2.2.1 _ _ rfl), (by first | exact ⟨[], (List.append_nil _).symm⟩ | exact ⟨_, rfl⟩), hK _ _ ?_⟩) | (refine ⟨_, _, Or.inl (d.2.2.2.1 _ _ rfl), hK _ _ ?_⟩) | (refine ⟨_, _, Or.inl (d.2.2.2.1 _ _ rfl).weakQ, hK _ _ ?_⟩) | (refine ⟨_, _, Or.inl (d.2.2.2.1 _ _ _), (by first | exact ⟨[], (List.append_nil _).symm⟩ | exact ⟨_, rfl⟩), hK _ _ ?_⟩) | (refine ⟨_, _, Or.inl (d.2.2.2.1 _ _ _), hK _ _ ?_⟩) | (refine ⟨_, _, Or.inl (d.2.2.2.1 _ _ _).weakQ, hK _ _ ?_⟩) | (refine ⟨_, _, Or.inl (d.2.2.2.1 _ _ _ _), (by first | exact ⟨[], (List.append_nil _).symm⟩ | exact ⟨_, rfl⟩), hK _ _ ?_⟩) | (refine ⟨_, _, Or.inl (d.2.2.2.1 _ _ _ _), hK _ _ ?_⟩) | (refine ⟨_, _, Or.inl (d.2.2.2.1 _ _ _ _).weakQ, hK _ _ ?_⟩) | (refine ⟨_, _, Or.inr ⟨e.1 _, rfl⟩, (by first | exact ⟨[], (List.append_nil _).symm⟩ | exact ⟨_, rfl⟩), hK _ _ ?_⟩) | (refine ⟨_, _, Or.inr ⟨e.1 _, rfl⟩, hK _ _ ?_⟩) | (refine ⟨_, _, Or.inr ⟨e.2.1 _, rfl⟩, (by first | exact ⟨[], (List.append_nil _).symm⟩ | exact ⟨_, rfl⟩), hK _ _ ?_⟩) | (refine ⟨_, _, Or.inr ⟨e.2.1 _, rfl⟩, hK _ _ ?_⟩)); clear hK K)
    | (with_reducible refine lops_nil ?_)
    | (refine lavc_cond rfl (fun _ => ?_) (fun hc => absurd hc (by decide)))
    | (refine lavc_cond rfl (fun hc => absurd hc (by decide)) (fun _ => ?_))
    | (simp only [↓reduceIte, Nat.reduceEqDiff, reduceCtorEq]))
  exact q.out) : p := h l c d e q
theorem go1 {p g L C D E : Prop} (l : L) (c : C) (d : D) (e : E) (q : Go1 g) (h : L → C → D → E → Go1 g → p := by
  intro l c d e q
  repeat (first
    | (with_reducible refine lops_step fun K hK => ?_; simp (disch := first | exact dch | fail) only [go_sem, Nat.reduceAdd, Nat.reduceSub, reduceIte, Nat.reduceEqDiff, Int.reduceToNat, Int.reduceBEq, Int.reduceBNe, l]; (repeat (with_reducible refine And.intro acl ?_)); (first | (refine hK _ _ ?_) | (refine ⟨_, rfl, hK _ _ ?_⟩) | (refine Or.inl (hK _ _ ?_)) | (refine ⟨_, _, Or.inl (c.1 _), (by first | exact ⟨[], (List.append_nil _).symm⟩ | exact ⟨_, rfl⟩), hK _ _ ?_⟩) | (refine ⟨_, _, Or.inl (c.1 _), hK _ _ ?_⟩) | (refine ⟨_, _, Or.inl (c.1 _).weakQ, hK _ _ ?_⟩) | (refine ⟨_, _, Or.inl (c.2.1 _), (by first | exact ⟨[], (List.append_nil _).symm⟩ | exact ⟨_, rfl⟩), hK _ _ ?_⟩) | (refine ⟨_, _, Or.inl (c.2.1 _), hK _ _ ?_⟩) | (refine ⟨_, _, Or.inl (c.2.1 _).weakQ, hK _ _ ?_⟩) | (refine ⟨_, _, Or.inl (c.2.2.1 _), (by first | exact ⟨[], (List.append_nil _).symm⟩ | exact ⟨_, rfl⟩), hK _ _ ?_⟩) | (refine ⟨_, _, Or.inl (c.2.2.1 _), hK _ _ ?_⟩) | (refine ⟨_, _, Or.inl (c.2.2.1 _).weakQ, hK _ _ ?_⟩) | (refine ⟨_, _, Or.inl (c.2.2.2.1 _), (by first | exact ⟨[], (List.append_nil _).symm⟩ | exact ⟨_, rfl⟩), hK _ _ ?_⟩) | (refine ⟨_, _, Or.inl (c.2.2.2.1 _), hK _ _ ?_⟩) | (refine ⟨_, _, Or.inl (c.2.2.2.1 _).weakQ, hK _ _ ?_⟩) | (refine ⟨_, _, Or.inl (c.2.2.2.2.1 _), (by first | exact ⟨[], (List.append_nil _).symm⟩ | exact ⟨_, rfl⟩), hK _ _ ?_⟩) | (refine ⟨_, _, Or.inl (c.2.2.2.2.1 _), hK _ _ ?_⟩) | (refine ⟨_, _, Or.inl (c.2.2.2.2.1 _).weakQ, hK _ _ ?_⟩) | (refine ⟨_, _, Or.inl (c.2.2.2.2.2.1 _), (by first | exact ⟨[], (List.append_nil _).symm⟩ | exact ⟨_, rfl⟩), hK _ _ ?_⟩) | (refine ⟨_, _, Or.inl (c.2.2.2.2.2.1 _), hK _ _ ?_⟩) | (refine ⟨_, _, Or.inl (c.2.2.2.2.2.1 _).weakQ, hK _ _ ?_⟩) | (refine ⟨_, _, Or.inl (c.2.2.2.2.2.2.1 _), (by first | exact ⟨[], (List.append_nil _).symm⟩ | exact ⟨_, rfl⟩), hK _ _ ?_⟩) | (refine ⟨_, _, Or.inl (c.2.2.2.2.2.2.1 _), hK _ _ ?_⟩) | (refine ⟨_, _, Or.inl (c.2.2.2.2.2.2.1 _).weakQ, hK _ _ ?_⟩) | (refine ⟨_, _, Or.inl (c.2.2.2.2.2.2.2.1 _), (by first | exact ⟨[], (List.append_nil _).symm⟩ | exact ⟨_, rfl⟩), hK _ _ ?_⟩) | (refine ⟨_, _, Or.inl (c.2.2.2.2.2.2.2.1 _), hK _ _ ?_⟩) | (refine ⟨_, _, Or.inl (c.2.2.2.2.2.2.2.1 _).weakQ, hK _ _ ?_⟩) | (refine ⟨_, _, Or.inl (d.1 _ _), (by first | exact ⟨[], (List.append_nil _).symm⟩ | exact ⟨_, rfl⟩), hK _ _ ?_⟩) | (refine ⟨_, _, Or.inl (d.1 _ _), hK _ _ ?_⟩) | (refine ⟨_, _, Or.inl (d.1 _ _).weakQ, hK _ _ ?_⟩) | (refine ⟨_, _, Or.inl (d.1 _ _ rfl), (by first | exact ⟨[], (List.append_nil _).symm⟩ | exact ⟨_, rfl⟩), hK _ _ ?_⟩) | (refine ⟨_, _, Or.inl (d.1 _ _ rfl), hK _ _ ?_⟩) | (refine ⟨_, _, Or.inl (d.1 _ _ rfl).weakQ, hK _ _ ?_⟩) | (refine ⟨_, _, Or.inl (d.1 _ _ _), (by first | exact ⟨[], (List.append_nil _).symm⟩ | exact ⟨_, rfl⟩), hK _ _ ?_⟩) | (refine ⟨_, _, Or.inl (d.1 _ _ _), hK _ _ ?_⟩) | (refine ⟨_, _, Or.inl (d.1 _ _ _).weakQ, hK _ _ ?_⟩) | (refine ⟨_, _, Or.inl (d.1 _ _ _ _), (by first | exact ⟨[], (List.append_nil _).symm⟩ | exact ⟨_, rfl⟩), hK _ _ ?_⟩) | (refine ⟨_, _, Or.inl (d.1 _ _ _ _), hK _ _ ?_⟩) | (refine ⟨_, _, Or.inl (d.1 _ _ _ _).weakQ, hK _ _ ?_⟩) | (refine ⟨_, _, Or.inl (d.2.1 _ _), (by first | exact ⟨[], (List.append_nil _).symm⟩ | exact ⟨_, rfl⟩), hK _ _ ?_⟩) | (refine ⟨_, _, Or.inl (d.2.1 _ _), hK _ _ ?_⟩) | (refine ⟨_, _, Or.inl (d.2.1 _ _).weakQ, hK _ _ ?_⟩) | (refine ⟨_, _, Or.inl (d.2.1 _ _ rfl), (by first | exact ⟨[], (List.append_nil _).symm⟩ | exact ⟨_, rfl⟩), hK _ _ ?_⟩) | (refine ⟨_, _, Or.inl (d.2.1 _ _ rfl), hK _ _ ?_⟩) | (refine ⟨_, _, Or.inl (d.2.1 _ _ rfl).weakQ, hK _ _ ?_⟩) | (refine ⟨_, _, Or.inl (d.2.1 _ _ _), (by first | exact ⟨[], (List.append_nil _).symm⟩ | exact ⟨_, rfl⟩), hK _ _ ?_⟩) | (refine ⟨_, _, Or.inl (d.2.1 _ _ _), hK _ _ ?_⟩) | (refine ⟨_, _, Or.inl (d.2.1 _ _ _).weakQ, hK _ _ ?_⟩) | (refine ⟨_, _, Or.inl (d.2.1 _ _ _ _), (by first | exact ⟨[], (List.append_nil _).symm⟩ | exact ⟨_, rfl⟩), hK _ _ ?_⟩) | (refine ⟨_, _, Or.inl (d.2.1 _ _ _ _), hK _ _ ?_⟩) | (refine ⟨_, _, Or.inl (d.2.1 _ _ _ _).weakQ, hK _ _ ?_⟩) | (refine ⟨_, _, Or.inl (d.2.2.1 _ _), (by first | exact ⟨[], (List.append_nil _).symm⟩ | exact ⟨_, rfl⟩), hK _ _ ?_⟩) | (refine ⟨_, _, Or.inl (d.2.2.1 _ _), hK _ _ ?_⟩) | (refine ⟨_, _, Or.inl (d.2.2.1 _ _).weakQ, hK _ _ ?_⟩) | (refine ⟨_, _, Or.inl (d.2.2.1 _ _ rfl), (by first | exact ⟨[], (List.append_nil _).symm⟩ | exact ⟨_, rfl⟩), hK _ _ ?_⟩) | (refine ⟨_, _, Or.inl (d.2.2.1 _ _ rfl), hK _ _ ?_⟩) | (refine ⟨_, _, Or.inl (d.2.2.1 _ _ rfl).weakQ, hK _ _ ?_⟩) | (refine ⟨_, _, Or.inl (d.2.2.1 _ _ _), (by first | exact ⟨[], (List.append_nil _).symm⟩ | exact ⟨_, rfl⟩), hK _ _ ?_⟩) | (refine ⟨_, _, Or.inl (d.2.2.1 _ _ _), hK _ _ ?_⟩) | (refine ⟨_, _, Or.inl (d.2.2.1 _ _ _).weakQ, hK _ _ ?_⟩) | (refine ⟨_, _, Or.inl (d.2.2.1 _ _ _ _), (by first | exact ⟨[], (List.append_nil _).symm⟩ | exact ⟨_, rfl⟩), hK _ _ ?_⟩) | (refine ⟨_, _, Or.inl (d.2.2.1 _ _ _ _), hK _ _ ?_⟩) | (refine ⟨_, _, Or.inl (d.2.2.1 _ _ _ _).weakQ, hK _ _ ?_⟩) | (refine ⟨_, _, Or.inl (d.2.2.2.1 _ _), (by first | exact ⟨[], (List.append_nil _).symm⟩ | exact ⟨_, rfl⟩), hK _ _ ?_⟩) | (refine ⟨_, _, Or.inl (d.2.2.2.1 _ _), hK _ _ ?_⟩) | (refine ⟨_, _, Or.inl (d.2.2.2.1 _ _).weakQ, hK _ _ ?_⟩) | (refine ⟨_, _, Or.inl (d.2.2.2.1 _ _ rfl), (by first | exact ⟨[], (List.append_nil _).symm⟩ | exact ⟨_, rfl⟩), hK _ _ ?_⟩) | (refine ⟨_, _, Or.inl (d.2.2.2.1 _ _ rfl), hK _ _ ?_⟩) | (refine ⟨_, _, Or.inl (d.2.2.2.1 _ _ rfl).weakQ, hK _ _ ?_⟩) | (refine ⟨_, _, Or.inl (d.2.2.2.1 _ _ _), (by first | exact ⟨[], (List.append_nil _).symm⟩ | exact ⟨_, rfl⟩), hK _ _ ?_⟩) | (refine ⟨_, _, Or.inl (d.2.2.2.1 _ _ _), hK _ _ ?_⟩) | (refine ⟨_, _, Or.inl (d.2.2.2.1 _ _ _).weakQ, hK _ _ ?_⟩) | (refine ⟨_, _, Or.inl (d.2.2.2.1 _ _ _ _), (by first | exact ⟨[], (List.append_nil _).symm⟩ | exact ⟨_, rfl⟩), hK _ _ ?_⟩) | (refine ⟨_, _, Or.inl (d.2.2.2.1 _ _ _ _), hK _ _ ?_⟩) | (refine ⟨_, _, Or.inl (d.2.2.2.1 _ _ _ _).weakQ, hK _ _ ?_⟩) | (refine ⟨_, _, Or.inr ⟨e.1 _, rfl⟩, (by first | exact ⟨[], (List.append_nil _).symm⟩ | exact ⟨_, rfl⟩), hK _ _ ?_⟩) | (refine ⟨_, _, Or.inr ⟨e.1 _, rfl⟩, hK _ _ ?_⟩) | (refine ⟨_, _, Or.inr ⟨e.2.1 _, rfl⟩, (by first | exact ⟨[], (List.append_nil _).symm⟩ | exact ⟨_, rfl⟩), hK _ _ ?_⟩) | (refine ⟨_, _, Or.inr ⟨e.2.1 _, rfl⟩, hK _ _ ?_⟩)); clear hK K)
    | (with_reducible refine lops_nil ?_)
    | (with_reducible first | refine lavc_reg ?_ | refine lavc_seq ?_ | refine lavc_block ?_ | refine lavc_skip ?_ | refine lavc_exit ?_ | refine lavc_ret ?_ | refine lavcR_round ?_)
    | (simp only [↓reduceIte, Nat.reduceEqDiff, reduceCtorEq]))
  exact q.out) : p := h l c d e q
theorem gn1 {p g L C D E : Prop} (l : L) (c : C) (d : D) (e : E) (q : Go1 g) (h : L → C → D → E → Go1 g → p := by
  intro l c d e q
  repeat (first
    | (with_reducible refine lops_step fun K hK => ?_; simp (disch := first | exact dch | fail) only [go_sem, Nat.reduceAdd, Nat.reduceSub, reduceIte, Nat.reduceEqDiff, Int.reduceToNat, Int.reduceBEq, Int.reduceBNe, l]; (repeat (with_reducible refine And.intro acl ?_)); (first | (refine hK _ _ ?_) | (refine ⟨_, rfl, hK _ _ ?_⟩) | (refine Or.inl (hK _ _ ?_)) | (refine ⟨_, _, Or.inl (c.1 _), (by first | exact ⟨[], (List.append_nil _).symm⟩ | exact ⟨_, rfl⟩), hK _ _ ?_⟩) | (refine ⟨_, _, Or.inl (c.1 _), hK _ _ ?_⟩) | (refine ⟨_, _, Or.inl (c.1 _).weakQ, hK _ _ ?_⟩) | (refine ⟨_, _, Or.inl (c.2.1 _), (by first | exact ⟨[], (List.append_nil _).symm⟩ | exact ⟨_, rfl⟩), hK _ _ ?_⟩) | (refine ⟨_, _, Or.inl (c.2.1 _), hK _ _ ?_⟩) | (refine ⟨_, _, Or.inl (c.2.1 _).weakQ, hK _ _ ?_⟩) | (refine ⟨_, _, Or.inl (c.2.2.1 _), (by first | exact ⟨[], (List.append_nil _).symm⟩ | exact ⟨_, rfl⟩), hK _ _ ?_⟩) | (refine ⟨_, _, Or.inl (c.2.2.1 _), hK _ _ ?_⟩) | (refine ⟨_, _, Or.inl (c.2.2.1 _).weakQ, hK _ _ ?_⟩) | (refine ⟨_, _, Or.inl (c.2.2.2.1 _), (by first | exact ⟨[], (List.append_nil _).symm⟩ | exact ⟨_, rfl⟩), hK _ _ ?_⟩) | (refine ⟨_, _, Or.inl (c.2.2.2.1 _), hK _ _ ?_⟩) | (refine ⟨_, _, Or.inl (c.2.2.2.1 _).weakQ, hK _ _ ?_⟩) | (refine ⟨_, _, Or.inl (c.2.2.2.2.1 _), (by first | exact ⟨[], (List.append_nil _).symm⟩ | exact ⟨_, rfl⟩), hK _ _ ?_⟩) | (refine ⟨_, _, Or.inl (c.2.2.2.2.1 _), hK _ _ ?_⟩) | (refine ⟨_, _, Or.inl (c.2.2.2.2.1 _).weakQ, hK _ _ ?_⟩) | (refine ⟨_, _, Or.inl (c.2.2.2.2.2.1 _), (by first | exact ⟨[], (List.append_nil _).symm⟩ | exact ⟨_, rfl⟩), hK _ _ ?_⟩) | (refine ⟨_, _, Or.inl (c.2.2.2.2.2.1 _), hK _ _ ?_⟩) | (refine ⟨_, _, Or.inl (c.2.2.2.2.2.1 _).weakQ, hK _ _ ?_⟩) | (refine ⟨_, _, Or.inl (c.2.2.2.2.2.2.1 _), (by first | exact ⟨[], (List.append_nil _).symm⟩ | exact ⟨_, rfl⟩), hK _ _ ?_⟩) | (refine ⟨_, _, Or.inl (c.2.2.2.2.2.2.1 _), hK _ _ ?_⟩) | (refine ⟨_, _, Or.inl (c.2.2.2.2.2.2.1 _).weakQ, hK _ _ ?_⟩) | (refine ⟨_, _, Or.inl (c.2.2.2.2.2.2.2.1 _), (by first | exact ⟨[], (List.append_nil _).symm⟩ | exact ⟨_, rfl⟩), hK _ _ ?_⟩) | (refine ⟨_, _, Or.inl (c.2.2.2.2.2.2.2.1 _), hK _ _ ?_⟩) | (refine ⟨_, _, Or.inl (c.2.2.2.2.2.2.2.1 _).weakQ, hK _ _ ?_⟩) | (refine ⟨_, _, Or.inl (d.1 _ _), (by first | exact ⟨[], (List.append_nil _).symm⟩ | exact ⟨_, rfl⟩), hK _ _ ?_⟩) | (refine ⟨_, _, Or.inl (d.1 _ _), hK _ _ ?_⟩) | (refine ⟨_, _, Or.inl (d.1 _ _).weakQ, hK _ _ ?_⟩) | (refine ⟨_, _, Or.inl (d.1 _ _ rfl), (by first | exact ⟨[], (List.append_nil _).symm⟩ | exact ⟨_, rfl⟩), hK _ _ ?_⟩) | (refine ⟨_, _, Or.inl (d.1 _ _ rfl), hK _ _ ?_⟩) | (refine ⟨_, _, Or.inl (d.1 _ _ rfl).weakQ, hK _ _ ?_⟩) | (refine ⟨_, _, Or.inl (d.1 _ _ _), (by first | exact ⟨[], (List.append_nil _).symm⟩ | exact ⟨_, rfl⟩), hK _ _ ?_⟩) | (refine ⟨_, _, Or.inl (d.1 _ _ _), hK _ _ ?_⟩) | (refine ⟨_, _, Or.inl (d.1 _ _ _).weakQ, hK _ _ ?_⟩) | (refine ⟨_, _, Or.inl (d.1 _ _ _ _), (by first | exact ⟨[], (List.append_nil _).symm⟩ | exact ⟨_, rfl⟩), hK _ _ ?_⟩) | (refine ⟨_, _, Or.inl (d.1 _ _ _ _), hK _ _ ?_⟩) | (refine ⟨_, _, Or.inl (d.1 _ _ _ _).weakQ, hK _ _ ?_⟩) | (refine ⟨_, _, Or.inl (d.2.1 _ _), (by first | exact ⟨[], (List.append_nil _).symm⟩ | exact ⟨_, rfl⟩), hK _ _ ?_⟩) | (refine ⟨_, _, Or.inl (d.2.1 _ _), hK _ _ ?_⟩) | (refine ⟨_, _, Or.inl (d.2.1 _ _).weakQ, hK _ _ ?_⟩) | (refine ⟨_, _, Or.inl (d.2.1 _ _ rfl), (by first | exact ⟨[], (List.append_nil _).symm⟩ | exact ⟨_, rfl⟩), hK _ _ ?_⟩) | (refine ⟨_, _, Or.inl (d.2.1 _ _ rfl), hK _ _ ?_⟩) | (refine ⟨_, _, Or.inl (d.2.1 _ _ rfl).weakQ, hK _ _ ?_⟩) | (refine ⟨_, _, Or.inl (d.2.1 _ _ _), (by first | exact ⟨[], (List.append_nil _).symm⟩ | exact ⟨_, rfl⟩), hK _ _ ?_⟩) | (refine ⟨_, _, Or.inl (d.2.1 _ _ _), hK _ _ ?_⟩) | (refine ⟨_, _, Or.inl (d.2.1 _ _ _).weakQ, hK _ _ ?_⟩) | (refine ⟨_, _, Or.inl (d.2.1 _ _ _ _), (by first | exact ⟨[], (List.append_nil _).symm⟩ | exact ⟨_, rfl⟩), hK _ _ ?_⟩) | (refine ⟨_, _, Or.inl (d.2.1 _ _ _ _), hK _ _ ?_⟩) | (refine ⟨_, _, Or.inl (d.2.1 _ _ _ _).weakQ, hK _ _ ?_⟩) | (refine ⟨_, _, Or.inl (d.2.2.1 _ _), (by first | exact ⟨[], (List.append_nil _).symm⟩ | exact ⟨_, rfl⟩), hK _ _ ?_⟩) | (refine ⟨_, _, Or.inl (d.2.2.1 _ _), hK _ _ ?_⟩) | (refine ⟨_, _, Or.inl (d.2.2.1 _ _).weakQ, hK _ _ ?_⟩) | (refine ⟨_, _, Or.inl (d.2.2.1 _ _ rfl), (by first | exact ⟨[], (List.append_nil _).symm⟩ | exact ⟨_, rfl⟩), hK _ _ ?_⟩) | (refine ⟨_, _, Or.inl (d.2.2.1 _ _ rfl), hK _ _ ?_⟩) | (refine ⟨_, _, Or.inl (d.2.2.1 _ _ rfl).weakQ, hK _ _ ?_⟩) | (refine ⟨_, _, Or.inl (d.2.2.1 _ _ _), (by first | exact ⟨[], (List.append_nil _).symm⟩ | exact ⟨_, rfl⟩), hK _ _ ?_⟩) | (refine ⟨_, _, Or.inl (d.2.2.1 _ _ _), hK _ _ ?_⟩) | (refine ⟨_, _, Or.inl (d.2.2.1 _ _ _).weakQ, hK _ _ ?_⟩) | (refine ⟨_, _, Or.inl (d.2.2.1 _ _ _ _), (by first | exact ⟨[], (List.append_nil _).symm⟩ | exact ⟨_, rfl⟩), hK _ _ ?_⟩) | (refine ⟨_, _, Or.inl (d.2.2.1 _ _ _ _), hK _ _ ?_⟩) | (refine ⟨_, _, Or.inl (d.2.2.1 _ _ _ _).weakQ, hK _ _ ?_⟩) | (refine ⟨_, _, Or.inl (d.2.2.2.1 _ _), (by first | exact ⟨[], (List.append_nil _).symm⟩ | exact ⟨_, rfl⟩), hK _ _ ?_⟩) | (refine ⟨_, _, Or.inl (d.2.2.2.1 _ _), hK _ _ ?_⟩) | (refine ⟨_, _, Or.inl (d.2.2.2.1 _ _).weakQ, hK _ _ ?_⟩) | (refine ⟨_, _, Or.inl (d.2.2.2.1 _ _ rfl), (by first | exact ⟨[], (List.append_nil _).symm⟩ | exact ⟨_, rfl⟩), hK _ _ ?_⟩) | (refine ⟨_, _, Or.inl (d.2.2.2.1 _ _ rfl), hK _ _ ?_⟩) | (refine ⟨_, _, Or.inl (d.2.2.2.1 _ _ rfl).weakQ, hK _ _ ?_⟩) | (refine ⟨_, _, Or.inl (d.2.2.2.1 _ _ _), (by first | exact ⟨[], (List.append_nil _).symm⟩ | exact ⟨_, rfl⟩), hK _ _ ?_⟩) | (refine ⟨_, _, Or.inl (d.2.2.2.1 _ _ _), hK _ _ ?_⟩) | (refine ⟨_, _, Or.inl (d.2.2.2.1 _ _ _).weakQ, hK _ _ ?_⟩) | (refine ⟨_, _, Or.inl (d.2.2.2.1 _ _ _ _), (by first | exact ⟨[], (List.append_nil _).symm⟩ | exact ⟨_, rfl⟩), hK _ _ ?_⟩) | (refine ⟨_, _, Or.inl (d.2.2.2.1 _ _ _ _), hK _ _ ?_⟩) | (refine ⟨_, _, Or.inl (d.2.2.2.1 _ _ _ _).weakQ, hK _ _ ?_⟩) | (refine ⟨_, _, Or.inr ⟨e.1 _, rfl⟩, (by first | exact ⟨[], (List.append_nil _).symm⟩ | exact ⟨_, rfl⟩), hK _ _ ?_⟩) | (refine ⟨_, _, Or.inr ⟨e.1 _, rfl⟩, hK _ _ ?_⟩) | (refine ⟨_, _, Or.inr ⟨e.2.1 _, rfl⟩, (by first | exact ⟨[], (List.append_nil _).symm⟩ | exact ⟨_, rfl⟩), hK _ _ ?_⟩) | (refine ⟨_, _, Or.inr ⟨e.2.1 _, rfl⟩, hK _ _ ?_⟩)); clear hK K)
    | (with_reducible refine lops_nil ?_)
    | (with_reducible first | refine lavc_seq ?_ | refine lavc_block ?_ | refine lavc_skip ?_ | refine lavc_exit ?_ | refine lavc_ret ?_ | refine lavcR_round ?_)
    | (simp only [↓reduceIte, Nat.reduceEqDiff, reduceCtorEq]))
  exact q.out) : p := h l c d e q
theorem gs1 {p g L C D E : Prop} (l : L) (c : C) (d : D) (e : E) (q : Go1 g) (h : L → C → D → E → Go1 g → p := by
  intro l c d e q
  repeat (first
    | (with_reducible refine lops_step fun K hK => ?_; simp (disch := first | exact dch | fail) only [go_sem, Nat.reduceAdd, Nat.reduceSub, reduceIte, Nat.reduceEqDiff, Int.reduceToNat, Int.reduceBEq, Int.reduceBNe, l]; (repeat (with_reducible refine And.intro acl ?_)); (first | (refine hK _ _ ?_) | (refine ⟨_, rfl, hK _ _ ?_⟩) | (refine Or.inr (hK _ _ ?_)) | (refine Or.inr ⟨rfl, hK _ _ ?_⟩) | (refine ⟨_, _, Or.inl (c.1 _), (by first | exact ⟨[], (List.append_nil _).symm⟩ | exact ⟨_, rfl⟩), hK _ _ ?_⟩) | (refine ⟨_, _, Or.inl (c.1 _), hK _ _ ?_⟩) | (refine ⟨_, _, Or.inl (c.1 _).weakQ, hK _ _ ?_⟩) | (refine ⟨_, _, Or.inl (c.2.1 _), (by first | exact ⟨[], (List.append_nil _).symm⟩ | exact ⟨_, rfl⟩), hK _ _ ?_⟩) | (refine ⟨_, _, Or.inl (c.2.1 _), hK _ _ ?_⟩) | (refine ⟨_, _, Or.inl (c.2.1 _).weakQ, hK _ _ ?_⟩) | (refine ⟨_, _, Or.inl (c.2.2.1 _), (by first | exact ⟨[], (List.append_nil _).symm⟩ | exact ⟨_, rfl⟩), hK _ _ ?_⟩) | (refine ⟨_, _, Or.inl (c.2.2.1 _), hK _ _ ?_⟩) | (refine ⟨_, _, Or.inl (c.2.2.1 _).weakQ, hK _ _ ?_⟩) | (refine ⟨_, _, Or.inl (c.2.2.2.1 _), (by first | exact ⟨[], (List.append_nil _).symm⟩ | exact ⟨_, rfl⟩), hK _ _ ?_⟩) | (refine ⟨_, _, Or.inl (c.2.2.2.1 _), hK _ _ ?_⟩) | (refine ⟨_, _, Or.inl (c.2.2.2.1 _).weakQ, hK _ _ ?_⟩) | (refine ⟨_, _, Or.inl (c.2.2.2.2.1 _), (by first | exact ⟨[], (List.append_nil _).symm⟩ | exact ⟨_, rfl⟩), hK _ _ ?_⟩) | (refine ⟨_, _, Or.inl (c.2.2.2.2.1 _), hK _ _ ?_⟩) | (refine ⟨_, _, Or.inl (c.2.2.2.2.1 _).weakQ, hK _ _ ?_⟩) | (refine ⟨_, _, Or.inl (c.2.2.2.2.2.1 _), (by first | exact ⟨[], (List.append_nil _).symm⟩ | exact ⟨_, rfl⟩), hK _ _ ?_⟩) | (refine ⟨_, _, Or.inl (c.2.2.2.2.2.1 _), hK _ _ ?_⟩) | (refine ⟨_, _, Or.inl (c.2.2.2.2.2.1 _).weakQ, hK _ _ ?_⟩) | (refine ⟨_, _, Or.inl (c.2.2.2.2.2.2.1 _), (by first | exact ⟨[], (List.append_nil _).symm⟩ | exact ⟨_, rfl⟩), hK _ _ ?_⟩) | (refine ⟨_, _, Or.inl (c.2.2.2.2.2.2.1 _), hK _ _ ?_⟩) | (refine ⟨_, _, Or.inl (c.2.2.2.2.2.2.1 _).weakQ, hK _ _ ?_⟩) | (refine ⟨_, _, Or.inl (c.2.2.2.2.2.2.2.1 _), (by first | exact ⟨[], (List.append_nil _).symm⟩ | exact ⟨_, rfl⟩), hK _ _ ?_⟩) | (refine ⟨_, _, Or.inl (c.2.2.2.2.2.2.2.1 _), hK _ _ ?_⟩) | (refine ⟨_, _, Or.inl (c.2.2.2.2.2.2.2.1 _).weakQ, hK _ _ ?_⟩) | (refine ⟨_, _, Or.inl (d.1 _ _), (by first | exact ⟨[], (List.append_nil _).symm⟩ | exact ⟨_, rfl⟩), hK _ _ ?_⟩) | (refine ⟨_, _, Or.inl (d.1 _ _), hK _ _ ?_⟩) | (refine ⟨_, _, Or.inl (d.1 _ _).weakQ, hK _ _ ?_⟩) | (refine ⟨_, _, Or.inl (d.1 _ _ rfl), (by first | exact ⟨[], (List.append_nil _).symm⟩ | exact ⟨_, rfl⟩), hK _ _ ?_⟩) | (refine ⟨_, _, Or.inl (d.1 _ _ rfl), hK _ _ ?_⟩) | (refine ⟨_, _, Or.inl (d.1 _ _ rfl).weakQ, hK _ _ ?_⟩) | (refine ⟨_, _, Or.inl (d.1 _ _ _), (by first | exact ⟨[], (List.append_nil _).symm⟩ | exact ⟨_, rfl⟩), hK _ _ ?_⟩) | (refine ⟨_, _, Or.inl (d.1 _ _ _), hK _ _ ?_⟩) | (refine ⟨_, _, Or.inl (d.1 _ _ _).weakQ, hK _ _ ?_⟩) | (refine ⟨_, _, Or.inl (d.1 _ _ _ _), (by first | exact ⟨[], (List.append_nil _).symm⟩ | exact ⟨_, rfl⟩), hK _ _ ?_⟩) | (refine ⟨_, _, Or.inl (d.1 _ _ _ _), hK _ _ ?_⟩) | (refine ⟨_, _, Or.inl (d.1 _ _ _ _).weakQ, hK _ _ ?_⟩) | (refine ⟨_, _, Or.inl (d.2.1 _ _), (by first | exact ⟨[], (List.append_nil _).symm⟩ | exact ⟨_, rfl⟩), hK _ _ ?_⟩) | (refine ⟨_, _, Or.inl (d.2.1 _ _), hK _ _ ?_⟩) | (refine ⟨_, _, Or.inl (d.2.1 _ _).weakQ, hK _ _ ?_⟩) | (refine ⟨_, _, Or.inl (d.2.1 _ _ rfl), (by first | exact ⟨[], (List.append_nil _).symm⟩ | exact ⟨_, rfl⟩), hK _ _ ?_⟩) | (refine ⟨_, _, Or.inl (d.2.1 _ _ rfl), hK _ _ ?_⟩) | (refine ⟨_, _, Or.inl (d.2.1 _ _ rfl).weakQ, hK _ _ ?_⟩) | (refine ⟨_, _, Or.inl (d.2.1 _ _ _), (by first | exact ⟨[], (List.append_nil _).symm⟩ | exact ⟨_, rfl⟩), hK _ _ ?_⟩) | (refine ⟨_, _, Or.inl (d.2.1 _ _ _), hK _ _ ?_⟩) | (refine ⟨_, _, Or.inl (d.2.1 _ _ _).weakQ, hK _ _ ?_⟩) | (refine ⟨_, _, Or.inl (d.2.1 _ _ _ _), (by first | exact ⟨[], (List.append_nil _).symm⟩ | exact ⟨_, rfl⟩), hK _ _ ?_⟩) | (refine ⟨_, _, Or.inl (d.2.1 _ _ _ _), hK _ _ ?_⟩) | (refine ⟨_, _, Or.inl (d.2.1 _ _ _ _).weakQ, hK _ _ ?_⟩) | (refine ⟨_, _, Or.inl (d.2.2.1 _ _), (by first | exact ⟨[], (List.append_nil _).symm⟩ | exact ⟨_, rfl⟩), hK _ _ ?_⟩) | (refine ⟨_, _, Or.inl (d.2.2.1 _ _), hK _ _ ?_⟩) | (refine ⟨_, _, Or.inl (d.2.2.1 _ _).weakQ, hK _ _ ?_⟩) | (refine ⟨_, _, Or.inl (d.2.2.1 _ _ rfl), (by first | exact ⟨[], (List.append_nil _).symm⟩ | exact ⟨_, rfl⟩), hK _ _ ?_⟩) | (refine ⟨_, _, Or.inl (d.2.2.1 _ _ rfl), hK _ _ ?_⟩) | (refine ⟨_, _, Or.inl (d.2.2.1 _ _ rfl).weakQ, hK _ _ ?_⟩) | (refine ⟨_, _, Or.inl (d.2.2.1 _ _ _), (by first | exact ⟨[], (List.append_nil _).symm⟩ | exact ⟨_, rfl⟩), hK _ _ ?_⟩) | (refine ⟨_, _, Or.inl (d.2.2.1 _ _ _), hK _ _ ?_⟩) | (refine ⟨_, _, Or.inl (d.2.2.1 _ _ _).weakQ, hK _ _ ?_⟩) | (refine ⟨_, _, Or.inl (d.2.2.1 _ _ _ _), (by first | exact ⟨[], (List.append_nil _).symm⟩ | exact ⟨_, rfl⟩), hK _ _ ?_⟩) | (refine ⟨_, _, Or.inl (d.2.2.1 _ _ _ _), hK _ _ ?_⟩) | (refine ⟨_, _, Or.inl (d.2.2.1 _ _ _ _).weakQ, hK _ _ ?_⟩) | (refine ⟨_, _, Or.inl (d.2.2.2.1 _ _), (by first | exact ⟨[], (List.append_nil _).symm⟩ | exact ⟨_, rfl⟩), hK _ _ ?_⟩) | (refine ⟨_, _, Or.inl (d.2.2.2.1 _ _), hK _ _ ?_⟩) | (refine ⟨_, _, Or.inl (d.2.2.2.1 _ _).weakQ, hK _ _ ?_⟩) | (refine ⟨_, _, Or.inl (d.2.2.2.1 _ _ rfl), (by first | exact ⟨[], (List.append_nil _).symm⟩ | exact ⟨_, rfl⟩), hK _ _ ?_⟩) | (refine ⟨_, _, Or.inl (d.2.2.2.1 _ _ rfl), hK _ _ ?_⟩) | (refine ⟨_, _, Or.inl (d.2.2.2.1 _ _ rfl).weakQ, hK _ _ ?_⟩) | (refine ⟨_, _, Or.inl (d.2.2.2.1 _ _ _), (by first | exact ⟨[], (List.append_nil _).symm⟩ | exact ⟨_, rfl⟩), hK _ _ ?_⟩) | (refine ⟨_, _, Or.inl (d.2.2.2.1 _ _ _), hK _ _ ?_⟩) | (refine ⟨_, _, Or.inl (d.2.2.2.1 _ _ _).weakQ, hK _ _ ?_⟩) | (refine ⟨_, _, Or.inl (d.2.2.2.1 _ _ _ _), (by first | exact ⟨[], (List.append_nil _).symm⟩ | exact ⟨_, rfl⟩), hK _ _ ?_⟩) | (refine ⟨_, _, Or.inl (d.2.2.2.1 _ _ _ _), hK _ _ ?_⟩) | (refine ⟨_, _, Or.inl (d.2.2.2.1 _ _ _ _).weakQ, hK _ _ ?_⟩) | (refine ⟨_, _, Or.inr ⟨e.1 _, rfl⟩, (by first | exact ⟨[], (List.append_nil _).symm⟩ | exact ⟨_, rfl⟩), hK _ _ ?_⟩) | (refine ⟨_, _, Or.inr ⟨e.1 _, rfl⟩, hK _ _ ?_⟩) | (refine ⟨_, _, Or.inr ⟨e.2.1 _, rfl⟩, (by first | exact ⟨[], (List.append_nil _).symm⟩ | exact ⟨_, rfl⟩), hK _ _ ?_⟩) | (refine ⟨_, _, Or.inr ⟨e.2.1 _, rfl⟩, hK _ _ ?_⟩)); clear hK K)
    | (with_reducible refine lops_nil ?_)
    | (with_reducible first | refine lavc_reg ?_ | refine lavc_seq ?_ | refine lavc_block ?_ | refine lavc_skip ?_ | refine lavc_exit ?_ | refine lavc_ret ?_ | refine lavcR_round ?_)
    | (simp only [↓reduceIte, Nat.reduceEqDiff, reduceCtorEq]))
  exact q.out) : p := h l c d e q
theorem gc1 {p g L C D E : Prop} (l : L) (c : C) (d : D) (e : E) (q : Go1 g) (h : L → C → D → E → Go1 g → p := by
  intro l c d e q
  repeat (first
    | (with_reducible refine lops_step fun K hK => ?_; simp (disch := first | exact dch | fail) only [go_sem, Nat.reduceAdd, Nat.reduceSub, reduceIte, Nat.reduceEqDiff, Int.reduceToNat, Int.reduceBEq, Int.reduceBNe, l]; (try (first | (refine And.intro (fun _ => ?_) (fun h => absurd h (by decide))) | (refine And.intro (fun h => absurd h (by decide)) (fun _ => ?_)))); (repeat (with_reducible refine And.intro acl ?_)); (first | (refine hK _ _ ?_) | (refine ⟨_, rfl, hK _ _ ?_⟩) | (refine Or.inl (hK _ _ ?_)) | (refine ⟨_, _, Or.inl (c.1 _), (by first | exact ⟨[], (List.append_nil _).symm⟩ | exact ⟨_, rfl⟩), hK _ _ ?_⟩) | (refine ⟨_, _, Or.inl (c.1 _), hK _ _ ?_⟩) | (refine ⟨_, _, Or.inl (c.1 _).weakQ, hK _ _ ?_⟩) | (refine ⟨_, _, Or.inl (c.2.1 _), (by first | exact ⟨[], (List.append_nil _).symm⟩ | exact ⟨_, rfl⟩), hK _ _ ?_⟩) | (refine ⟨_, _, Or.inl (c.2.1 _), hK _ _ ?_⟩) | (refine ⟨_, _, Or.inl (c.2.1 _).weakQ, hK _ _ ?_⟩) | (refine ⟨_, _, Or.inl (c.2.2.1 _), (by first | exact ⟨[], (List.append_nil _).symm⟩ | exact ⟨_, rfl⟩), hK _ _ ?_⟩) | (refine ⟨_, _, Or.inl (c.2.2.1 _), hK _ _ ?_⟩) | (refine ⟨_, _, Or.inl (c.2.2.1 _).weakQ, hK _ _ ?_⟩) | (refine ⟨_, _, Or.inl (c.2.2.2.1 _), (by first | exact ⟨[], (List.append_nil _).symm⟩ | exact ⟨_, rfl⟩), hK _ _ ?_⟩) | (refine ⟨_, _, Or.inl (c.2.2.2.1 _), hK _ _ ?_⟩) | (refine ⟨_, _, Or.inl (c.2.2.2.1 _).weakQ, hK _ _ ?_⟩) | (refine ⟨_, _, Or.inl (c.2.2.2.2.1 _), (by first | exact ⟨[], (List.append_nil _).symm⟩ | exact ⟨_, rfl⟩), hK _ _ ?_⟩) | (refine ⟨_, _, Or.inl (c.2.2.2.2.1 _), hK _ _ ?_⟩) | (refine ⟨_, _, Or.inl (c.2.2.2.2.1 _).weakQ, hK _ _ ?_⟩) | (refine ⟨_, _, Or.inl (c.2.2.2.2.2.1 _), (by first | exact ⟨[], (List.append_nil _).symm⟩ | exact ⟨_, rfl⟩), hK _ _ ?_⟩) | (refine ⟨_, _, Or.inl (c.2.2.2.2.2.1 _), hK _ _ ?_⟩) | (refine ⟨_, _, Or.inl (c.2.2.2.2.2.1 _).weakQ, hK _ _ ?_⟩) | (refine ⟨_, _, Or.inl (c.2.2.2.2.2.2.1 _), (by first | exact ⟨[], (List.append_nil _).symm⟩ | exact ⟨_, rfl⟩), hK _ _ ?_⟩) | (refine ⟨_, _, Or.inl (c.2.2.2.2.2.2.1 _), hK _ _ ?_⟩) | (refine ⟨_, _, Or.inl (c.2.2.2.2.2.2.1 _).weakQ, hK _ _ ?_⟩) | (refine ⟨_, _, Or.inl (c.2.2.2.2.2.2.2.1 _), (by first | exact ⟨[], (List.append_nil _).symm⟩ | exact ⟨_, rfl⟩), hK _ _ ?_⟩) | (refine ⟨_, _, Or.inl (c.2.2.2.2.2.2.2.1 _), hK _ _ ?_⟩) | (refine ⟨_, _, Or.inl (c.2.2.2.2.2.2.2.1 _).weakQ, hK _ _ ?_⟩) | (refine ⟨_, _, Or.inl (d.1 _ _), (by first | exact ⟨[], (List.append_nil _).symm⟩ | exact ⟨_, rfl⟩), hK _ _ ?_⟩) | (refine ⟨_, _, Or.inl (d.1 _ _), hK _ _ ?_⟩) | (refine ⟨_, _, Or.inl (d.1 _ _).weakQ, hK _ _ ?_⟩) | (refine ⟨_, _, Or.inl (d.1 _ _ rfl), (by first | exact ⟨[], (List.append_nil _).symm⟩ | exact ⟨_, rfl⟩), hK _ _ ?_⟩) | (refine ⟨_, _, Or.inl (d.1 _ _ rfl), hK _ _ ?_⟩) | (refine ⟨_, _, Or.inl (d.1 _ _ rfl).weakQ, hK _ _ ?_⟩) | (refine ⟨_, _, Or.inl (d.1 _ _ _), (by first | exact ⟨[], (List.append_nil _).symm⟩ | exact ⟨_, rfl⟩), hK _ _ ?_⟩) | (refine ⟨_, _, Or.inl (d.1 _ _ _), hK _ _ ?_⟩) | (refine ⟨_, _, Or.inl (d.1 _ _ _).weakQ, hK _ _ ?_⟩) | (refine ⟨_, _, Or.inl (d.1 _ _ _ _), (by first | exact ⟨[], (List.append_nil _).symm⟩ | exact ⟨_, rfl⟩), hK _ _ ?_⟩) | (refine ⟨_, _, Or.inl (d.1 _ _ _ _), hK _ _ ?_⟩) | (refine ⟨_, _, Or.inl (d.1 _ _ _ _).weakQ, hK _ _ ?_⟩) | (refine ⟨_, _, Or.inl (d.2.1 _ _), (by first | exact ⟨[], (List.append_nil _).symm⟩ | exact ⟨_, rfl⟩), hK _ _ ?_⟩) | (refine ⟨_, _, Or.inl (d.2.1 _ _), hK _ _ ?_⟩) | (refine ⟨_, _, Or.inl (d.2.1 _ _).weakQ, hK _ _ ?_⟩) | (refine ⟨_, _, Or.inl (d.2.1 _ _ rfl), (by first | exact ⟨[], (List.append_nil _).symm⟩ | exact ⟨_, rfl⟩), hK _ _ ?_⟩) | (refine ⟨_, _, Or.inl (d.2.1 _ _ rfl), hK _ _ ?_⟩) | (refine ⟨_, _, Or.inl (d.2.1 _ _ rfl).weakQ, hK _ _ ?_⟩) | (refine ⟨_, _, Or.inl (d.2.1 _ _ _), (by first | exact ⟨[], (List.append_nil _).symm⟩ | exact ⟨_, rfl⟩), hK _ _ ?_⟩) | (refine ⟨_, _, Or.inl (d.2.1 _ _ _), hK _ _ ?_⟩) | (refine ⟨_, _, Or.inl (d.2.1 _ _ _).weakQ, hK _ _ ?_⟩) | (refine ⟨_, _, Or.inl (d.2.1 _ _ _ _), (by first | exact ⟨[], (List.append_nil _).symm⟩ | exact ⟨_, rfl⟩), hK _ _ ?_⟩) | (refine ⟨_, _, Or.inl (d.2.1 _ _ _ _), hK _ _ ?_⟩) | (refine ⟨_, _, Or.inl (d.2.1 _ _ _ _).weakQ, hK _ _ ?_⟩) | (refine ⟨_, _, Or.inl (d.2.2.1 _ _), (by first | exact ⟨[], (List.append_nil _).symm⟩ | exact ⟨_, rfl⟩), hK _ _ ?_⟩) | (refine ⟨_, _, Or.inl (d.2.2.1 _ _), hK _ _ ?_⟩) | (refine ⟨_, _, Or.inl (d.2.2.1 _ _).weakQ, hK _ _ ?_⟩) | (refine ⟨_, _, Or.inl (d.2.2.1 _ _ rfl), (by first | exact ⟨[], (List.append_nil _).symm⟩ | exact ⟨_, rfl⟩), hK _ _ ?_⟩) | (refine ⟨_, _, Or.inl (d.2.2.1 _ _ rfl), hK _ _ ?_⟩) | (refine ⟨_, _, Or.inl (d.2.2.1 _ _ rfl).weakQ, hK _ _ ?_⟩) | (refine ⟨_, _, Or.inl (d.2.2.1 _ _ _), (by first | exact ⟨[], (List.append_nil _).symm⟩ | exact ⟨_, rfl⟩), hK _ _ ?_⟩) | (refine ⟨_, _, Or.inl (d.2.2.1 _ _ _), hK _ _ ?_⟩) | (refine ⟨_, _, Or.inl (d.2.2.1 _ _ _).weakQ, hK _ _ ?_⟩) | (refine ⟨_, _, Or.inl (d.2.2.1 _ _ _ _), (by first | exact ⟨[], (List.append_nil _).symm⟩ | exact ⟨_, rfl⟩), hK _ _ ?_⟩) | (refine ⟨_, _, Or.inl (d.2.2.1 _ _ _ _), hK _ _ ?_⟩) | (refine ⟨_, _, Or.inl (d.2.2.1 _ _ _ _).weakQ, hK _ _ ?_⟩) | (refine ⟨_, _, Or.inl (d.2.2.2.1 _ _), (by first | exact ⟨[], (List.append_nil _).symm⟩ | exact ⟨_, rfl⟩), hK _ _ ?_⟩) | (refine ⟨_, _, Or.inl (d.2.2.2.1 _ _), hK _ _ ?_⟩) | (refine ⟨_, _, Or.inl (d.2.2.2.1 _ _).weakQ, hK _ _ ?_⟩) | (refine ⟨_, _, Or.inl (d.2.2.2.1 _ _ rfl), (by first | exact ⟨[], (List.append_nil _).symm⟩ | exact ⟨_, rfl⟩), hK _ _ ?_⟩) | (refine ⟨_, _, Or.inl (d.2.2.2.1 _ _ rfl), hK _ _ ?_⟩) | (refine ⟨_, _, Or.inl (d.2.2.2.1 _ _ rfl).weakQ, hK _ _ ?_⟩) | (refine ⟨_, _, Or.inl (d.2.2.2.1 _ _ _), (by first | exact ⟨[], (List.append_nil _).symm⟩ | exact ⟨_, rfl⟩), hK _ _ ?_⟩) | (refine ⟨_, _, Or.inl (d.2.2.2.1 _ _ _), hK _ _ ?_⟩) | (refine ⟨_, _, Or.inl (d.2.2.2.1 _ _ _).weakQ, hK _ _ ?_⟩) | (refine ⟨_, _, Or.inl (d.2.2.2.1 _ _ _ _), (by first | exact ⟨[], (List.append_nil _).symm⟩ | exact ⟨_, rfl⟩), hK _ _ ?_⟩) | (refine ⟨_, _, Or.inl (d.2.2.2.1 _ _ _ _), hK _ _ ?_⟩) | (refine ⟨_, _, Or.inl (d.2.2.2.1 _ _ _ _).weakQ, hK _ _ ?_⟩) | (refine ⟨_, _, Or.inr ⟨e.1 _, rfl⟩, (by first | exact ⟨[], (List.append_nil _).symm⟩ | exact ⟨_, rfl⟩), hK _ _ ?_⟩) | (refine ⟨_, _, Or.inr ⟨e.1 _, rfl⟩, hK _ _ ?_⟩) | (refine ⟨_, _, Or.inr ⟨e.2.1 _, rfl⟩, (by first | exact ⟨[], (List.append_nil _).symm⟩ | exact ⟨_, rfl⟩), hK _ _ ?_⟩) | (refine ⟨_, _, Or.inr ⟨e.2.1 _, rfl⟩, hK _ _ ?_⟩)); clear hK K)
    | (with_reducible refine lops_nil ?_)
    | (with_reducible first | refine lavc_reg ?_ | refine lavc_seq ?_ | refine lavc_block ?_ | refine lavc_skip ?_ | refine lavc_exit ?_ | refine lavc_ret ?_ | refine lavcR_round ?_)
    | (refine lavc_cond rfl (fun _ => ?_) (fun hc => absurd hc (by decide)))
    | (refine lavc_cond rfl (fun hc => absurd hc (by decide)) (fun _ => ?_))
    | (simp only [↓reduceIte, Nat.reduceEqDiff, reduceCtorEq]))
  exact q.out) : p := h l c d e q
theorem gz1 {p g L C D E : Prop} (l : L) (c : C) (d : D) (e : E) (q : Go1 g) (h : L → C → D → E → Go1 g → p := by
  intro l c d e q
  repeat (first
    | (with_reducible refine lops_step fun K hK => ?_; simp (disch := first | exact dch | fail) only [go_sem, Nat.reduceAdd, Nat.reduceSub, reduceIte, Nat.reduceEqDiff, Int.reduceToNat, Int.reduceBEq, Int.reduceBNe, l]; (try (first | (refine And.intro (fun _ => ?_) (fun h => absurd h (by decide))) | (refine And.intro (fun h => absurd h (by decide)) (fun _ => ?_)))); (repeat (with_reducible refine And.intro acl ?_)); (first | (refine hK _ _ ?_) | (refine ⟨_, rfl, hK _ _ ?_⟩) | (refine Or.inr (hK _ _ ?_)) | (refine Or.inr ⟨rfl, hK _ _ ?_⟩) | (refine ⟨_, _, Or.inl (c.1 _), (by first | exact ⟨[], (List.append_nil _).symm⟩ | exact ⟨_, rfl⟩), hK _ _ ?_⟩) | (refine ⟨_, _, Or.inl (c.1 _), hK _ _ ?_⟩) | (refine ⟨_, _, Or.inl (c.1 _).weakQ, hK _ _ ?_⟩) | (refine ⟨_, _, Or.inl (c.2.1 _), (by first | exact ⟨[], (List.append_nil _).symm⟩ | exact ⟨_, rfl⟩), hK _ _ ?_⟩) | (refine ⟨_, _, Or.inl (c.2.1 _), hK _ _ ?_⟩) | (refine ⟨_, _, Or.inl (c.2.1 _).weakQ, hK _ _ ?_⟩) | (refine ⟨_, _, Or.inl (c.2.2.1 _), (by first | exact ⟨[], (List.append_nil _).symm⟩ | exact ⟨_, rfl⟩), hK _ _ ?_⟩) | (refine ⟨_, _, Or.inl (c.2.2.1 _), hK _ _ ?_⟩) | (refine ⟨_, _, Or.inl (c.2.2.1 _).weakQ, hK _ _ ?_⟩) | (refine ⟨_, _, Or.inl (c.2.2.2.1 _), (by first | exact ⟨[], (List.append_nil _).symm⟩ | exact ⟨_, rfl⟩), hK _ _ ?_⟩) | (refine ⟨_, _, Or.inl (c.2.2.2.1 _), hK _ _ ?_⟩) | (refine ⟨_, _, Or.inl (c.2.2.2.1 _).weakQ, hK _ _ ?_⟩) | (refine ⟨_, _, Or.inl (c.2.2.2.2.1 _), (by first | exact ⟨[], (List.append_nil _).symm⟩ | exact ⟨_, rfl⟩), hK _ _ ?_⟩) | (refine ⟨_, _, Or.inl (c.2.2.2.2.1 _), hK _ _ ?_⟩) | (refine ⟨_, _, Or.inl (c.2.2.2.2.1 _).weakQ, hK _ _ ?_⟩) | (refine ⟨_, _, Or.inl (c.2.2.2.2.2.1 _), (by first | exact ⟨[], (List.append_nil _).symm⟩ | exact ⟨_, rfl⟩), hK _ _ ?_⟩) | (refine ⟨_, _, Or.inl (c.2.2.2.2.2.1 _), hK _ _ ?_⟩) | (refine ⟨_, _, Or.inl (c.2.2.2.2.2.1 _).weakQ, hK _ _ ?_⟩) | (refine ⟨_, _, Or.inl (c.2.2.2.2.2.2.1 _), (by first | exact ⟨[], (List.append_nil _).symm⟩ | exact ⟨_, rfl⟩), hK _ _ ?_⟩) | (refine ⟨_, _, Or.inl (c.2.2.2.2.2.2.1 _), hK _ _ ?_⟩) | (refine ⟨_, _, Or.inl (c.2.2.2.2.2.2.1 _).weakQ, hK _ _ ?_⟩) | (refine ⟨_, _, Or.inl (c.2.2.2.2.2.2.2.1 _), (by first | exact ⟨[], (List.append_nil _).symm⟩ | exact ⟨_, rfl⟩), hK _ _ ?_⟩) | (refine ⟨_, _, Or.inl (c.2.2.2.2.2.2.2.1 _), hK _ _ ?_⟩) | (refine ⟨_, _, Or.inl (c.2.2.2.2.2.2.2.1 _).weakQ, hK _ _ ?_⟩) | (refine ⟨_, _, Or.inl (d.1 _ _), (by first | exact ⟨[], (List.append_nil _).symm⟩ | exact ⟨_, rfl⟩), hK _ _ ?_⟩) | (refine ⟨_, _, Or.inl (d.1 _ _), hK _ _ ?_⟩) | (refine ⟨_, _, Or.inl (d.1 _ _).weakQ, hK _ _ ?_⟩) | (refine ⟨_, _, Or.inl (d.1 _ _ rfl), (by first | exact ⟨[], (List.append_nil _).symm⟩ | exact ⟨_, rfl⟩), hK _ _ ?_⟩) | (refine ⟨_, _, Or.inl (d.1 _ _ rfl), hK _ _ ?_⟩) | (refine ⟨_, _, Or.inl (d.1 _ _ rfl).weakQ, hK _ _ ?_⟩) | (refine ⟨_, _, Or.inl (d.1 _ _ _), (by first | exact ⟨[], (List.append_nil _).symm⟩ | exact ⟨_, rfl⟩), hK _ _ ?_⟩) | (refine ⟨_, _, Or.inl (d.1 _ _ _), hK _ _ ?_⟩) | (refine ⟨_, _, Or.inl (d.1 _ _ _).weakQ, hK _ _ ?_⟩) | (refine ⟨_, _, Or.inl (d.1 _ _ _ _), (by first | exact ⟨[], (List.append_nil _).symm⟩ | exact ⟨_, rfl⟩), hK _ _ ?_⟩) | (refine ⟨_, _, Or.inl (d.1 _ _ _ _), hK _ _ ?_⟩) | (refine ⟨_, _, Or.inl (d.1 _ _ _ _).weakQ, hK _ _ ?_⟩) | (refine ⟨_, _, Or.inl (d.2.1 _ _), (by first | exact ⟨[], (List.append_nil _).symm⟩ | exact ⟨_, rfl⟩), hK _ _ ?_⟩) | (refine ⟨_, _, Or.inl (d.2.1 _ _), hK _ _ ?_⟩) | (refine ⟨_, _, Or.inl (d.2.1 _ _).weakQ, hK _ _ ?_⟩) | (refine ⟨_, _, Or.inl (d.2.1 _ _ rfl), (by first | exact ⟨[], (List.append_nil _).symm⟩ | exact ⟨_, rfl⟩), hK _ _ ?_⟩) | (refine ⟨_, _, Or.inl (d.2.1 _ _ rfl), hK _ _ ?_⟩) | (refine ⟨_, _, Or.inl (d.2.1 _ _ rfl).weakQ, hK _ _ ?_⟩) | (refine ⟨_, _, Or.inl (d.2.1 _ _ _), (by first | exact ⟨[], (List.append_nil _).symm⟩ | exact ⟨_, rfl⟩), hK _ _ ?_⟩) | (refine ⟨_, _, Or.inl (d.2.1 _ _ _), hK _ _ ?_⟩) | (refine ⟨_, _, Or.inl (d.2.1 _ _ _).weakQ, hK _ _ ?_⟩) | (refine ⟨_, _, Or.inl (d.2.1 _ _ _ _), (by first | exact ⟨[], (List.append_nil _).symm⟩ | exact ⟨_, rfl⟩), hK _ _ ?_⟩) | (refine ⟨_, _, Or.inl (d.2.1 _ _ _ _), hK _ _ ?_⟩) | (refine ⟨_, _, Or.inl (d.2.1 _ _ _ _).weakQ, hK _ _ ?_⟩) | (refine ⟨_, _, Or.inl (d.2.2.1 _ _), (by first | exact ⟨[], (List.append_nil _).symm⟩ | exact ⟨_, rfl⟩), hK _ _ ?_⟩) | (refine ⟨_, _, Or.inl (d.2.2.1 _ _), hK _ _ ?_⟩) | (refine ⟨_, _, Or.inl (d.2.2.1 _ _).weakQ, hK _ _ ?_⟩) | (refine ⟨_, _, Or.inl (d.2.2.1 _ _ rfl), (by first | exact ⟨[], (List.append_nil _).symm⟩ | exact ⟨_, rfl⟩), hK _ _ ?_⟩) | (refine ⟨_, _, Or.inl (d.2.2.1 _ _ rfl), hK _ _ ?_⟩) | (refine ⟨_, _, Or.inl (d.2.2.1 _ _ rfl).weakQ, hK _ _ ?_⟩) | (refine ⟨_, _, Or.inl (d.2.2.1 _ _ _), (by first | exact ⟨[], (List.append_nil _).symm⟩ | exact ⟨_, rfl⟩), hK _ _ ?_⟩) | (refine ⟨_, _, Or.inl (d.2.2.1 _ _ _), hK _ _ ?_⟩) | (refine ⟨_, _, Or.inl (d.2.2.1 _ _ _).weakQ, hK _ _ ?_⟩) | (refine ⟨_, _, Or.inl (d.2.2.1 _ _ _ _), (by first | exact ⟨[], (List.append_nil _).symm⟩ | exact ⟨_, rfl⟩), hK _ _ ?_⟩) | (refine ⟨_, _, Or.inl (d.2.2.1 _ _ _ _), hK _ _ ?_⟩) | (refine ⟨_, _, Or.inl (d.2.2.1 _ _ _ _).weakQ, hK _ _ ?_⟩) | (refine ⟨_, _, Or.inl (d.2.2.2.1 _ _), (by first | exact ⟨[], (List.append_nil _).symm⟩ | exact ⟨_, rfl⟩), hK _ _ ?_⟩) | (refine ⟨_, _, Or.inl (d.2.2.2.1 _ _), hK _ _ ?_⟩) | (refine ⟨_, _, Or.inl (d.2.2.2.1 _ _).weakQ, hK _ _ ?_⟩) | (refine ⟨_, _, Or.inl (d.2.2.2.1 _ _ rfl), (by first | exact ⟨[], (List.append_nil _).symm⟩ | exact ⟨_, rfl⟩), hK _ _ ?_⟩) | (refine ⟨_, _, Or.inl (d.2.2.2.1 _ _ rfl), hK _ _ ?_⟩) | (refine ⟨_, _, Or.inl (d.2.2.2.1 _ _ rfl).weakQ, hK _ _ ?_⟩) | (refine ⟨_, _, Or.inl (d.2.2.2.1 _ _ _), (by first | exact ⟨[], (List.append_nil _).symm⟩ | exact ⟨_, rfl⟩), hK _ _ ?_⟩) | (refine ⟨_, _, Or.inl (d.2.2.2.1 _ _ _), hK _ _ ?_⟩) | (refine ⟨_, _, Or.inl (d.2.2.2.1 _ _ _).weakQ, hK _ _ ?_⟩) | (refine ⟨_, _, Or.inl (d.2.2.2.1 _ _ _ _), (by first | exact ⟨[], (List.append_nil _).symm⟩ | exact ⟨_, rfl⟩), hK _ _ ?_⟩) | (refine ⟨_, _, Or.inl (d.2.2.2.1 _ _ _ _), hK _ _ ?_⟩) | (refine ⟨_, _, Or.inl (d.2.2.2.1 _ _ _ _).weakQ, hK _ _ ?_⟩) | (refine ⟨_, _, Or.inr ⟨e.1 _, rfl⟩, (by first | exact ⟨[], (List.append_nil _).symm⟩ | exact ⟨_, rfl⟩), hK _ _ ?_⟩) | (refine ⟨_, _, Or.inr ⟨e.1 _, rfl⟩, hK _ _ ?_⟩) | (refine ⟨_, _, Or.inr ⟨e.2.1 _, rfl⟩, (by first | exact ⟨[], (List.append_nil _).symm⟩ | exact ⟨_, rfl⟩), hK _ _ ?_⟩) | (refine ⟨_, _, Or.inr ⟨e.2.1 _, rfl⟩, hK _ _ ?_⟩)); clear hK K)
    | (with_reducible refine lops_nil ?_)
    | (with_reducible first | refine lavc_reg ?_ | refine lavc_seq ?_ | refine lavc_block ?_ | refine lavc_skip ?_ | refine lavc_exit ?_ | refine lavc_ret ?_ | refine lavcR_round ?_)
    | (refine lavc_cond rfl (fun _ => ?_) (fun hc => absurd hc (by decide)))
    | (refine lavc_cond rfl (fun hc => absurd hc (by decide)) (fun _ => ?_))
    | (simp only [↓reduceIte, Nat.reduceEqDiff, reduceCtorEq]))
  exact q.out) : p := h l c d e q
theorem gL1 {p g L C D E : Prop} (l : L) (c : C) (d : D) (e : E) (q : Go1 g) (h : L → C → D → E → Go1 g → p := by
  intro l c d e q
  repeat (first
    | (with_reducible refine lopsN_step fun K hK => ?_; simp (disch := first | exact dch | fail) only [go_sem, Nat.reduceAdd, Nat.reduceSub, reduceIte, Nat.reduceEqDiff, Int.reduceToNat, Int.reduceBEq, Int.reduceBNe, l]; (repeat (with_reducible refine And.intro acl ?_)); (first | (refine hK _ _ ?_) | (refine ⟨_, rfl, hK _ _ ?_⟩) | (refine Or.inl (hK _ _ ?_)) | (refine ⟨_, _, Or.inl (c.1 _), (by first | exact ⟨[], (List.append_nil _).symm⟩ | exact ⟨_, rfl⟩), hK _ _ ?_⟩) | (refine ⟨_, _, Or.inl (c.1 _), hK _ _ ?_⟩) | (refine ⟨_, _, Or.inl (c.1 _).weakQ, hK _ _ ?_⟩) | (refine ⟨_, _, Or.inl (c.2.1 _), (by first | exact ⟨[], (List.append_nil _).symm⟩ | exact ⟨_, rfl⟩), hK _ _ ?_⟩) | (refine ⟨_, _, Or.inl (c.2.1 _), hK _ _ ?_⟩) | (refine ⟨_, _, Or.inl (c.2.1 _).weakQ, hK _ _ ?_⟩) | (refine ⟨_, _, Or.inl (c.2.2.1 _), (by first | exact ⟨[], (List.append_nil _).symm⟩ | exact ⟨_, rfl⟩), hK _ _ ?_⟩) | (refine ⟨_, _, Or.inl (c.2.2.1 _), hK _ _ ?_⟩) | (refine ⟨_, _, Or.inl (c.2.2.1 _).weakQ, hK _ _ ?_⟩) | (refine ⟨_, _, Or.inl (c.2.2.2.1 _), (by first | exact ⟨[], (List.append_nil _).symm⟩ | exact ⟨_, rfl⟩), hK _ _ ?_⟩) | (refine ⟨_, _, Or.inl (c.2.2.2.1 _), hK _ _ ?_⟩) | (refine ⟨_, _, Or.inl (c.2.2.2.1 _).weakQ, hK _ _ ?_⟩) | (refine ⟨_, _, Or.inl (c.2.2.2.2.1 _), (by first | exact ⟨[], (List.append_nil _).symm⟩ | exact ⟨_, rfl⟩), hK _ _ ?_⟩) | (refine ⟨_, _, Or.inl (c.2.2.2.2.1 _), hK _ _ ?_⟩) | (refine ⟨_, _, Or.inl (c.2.2.2.2.1 _).weakQ, hK _ _ ?_⟩) | (refine ⟨_, _, Or.inl (c.2.2.2.2.2.1 _), (by first | exact ⟨[], (List.append_nil _).symm⟩ | exact ⟨_, rfl⟩), hK _ _ ?_⟩) | (refine ⟨_, _, Or.inl (c.2.2.2.2.2.1 _), hK _ _ ?_⟩) | (refine ⟨_, _, Or.inl (c.2.2.2.2.2.1 _).weakQ, hK _ _ ?_⟩) | (refine ⟨_, _, Or.inl (c.2.2.2.2.2.2.1 _), (by first | exact ⟨[], (List.append_nil _).symm⟩ | exact ⟨_, rfl⟩), hK _ _ ?_⟩) | (refine ⟨_, _, Or.inl (c.2.2.2.2.2.2.1 _), hK _ _ ?_⟩) | (refine ⟨_, _, Or.inl (c.2.2.2.2.2.2.1 _).weakQ, hK _ _ ?_⟩) | (refine ⟨_, _, Or.inl (c.2.2.2.2.2.2.2.1 _), (by first | exact ⟨[], (List.append_nil _).symm⟩ | exact ⟨_, rfl⟩), hK _ _ ?_⟩) | (refine ⟨_, _, Or.inl (c.2.2.2.2.2.2.2.1 _), hK _ _ ?_⟩) | (refine ⟨_, _, Or.inl (c.2.2.2.2.2.2.2.1 _).weakQ, hK _ _ ?_⟩) | (refine ⟨_, _, Or.inl (d.1 _ _), (by first | exact ⟨[], (List.append_nil _).symm⟩ | exact ⟨_, rfl⟩), hK _ _ ?_⟩) | (refine ⟨_, _, Or.inl (d.1 _ _), hK _ _ ?_⟩) | (refine ⟨_, _, Or.inl (d.1 _ _).weakQ, hK _ _ ?_⟩) | (refine ⟨_, _, Or.inl (d.1 _ _ rfl), (by first | exact ⟨[], (List.append_nil _).symm⟩ | exact ⟨_, rfl⟩), hK _ _ ?_⟩) | (refine ⟨_, _, Or.inl (d.1 _ _ rfl), hK _ _ ?_⟩) | (refine ⟨_, _, Or.inl (d.1 _ _ rfl).weakQ, hK _ _ ?_⟩) | (refine ⟨_, _, Or.inl (d.1 _ _ _), (by first | exact ⟨[], (List.append_nil _).symm⟩ | exact ⟨_, rfl⟩), hK _ _ ?_⟩) | (refine ⟨_, _, Or.inl (d.1 _ _ _), hK _ _ ?_⟩) | (refine ⟨_, _, Or.inl (d.1 _ _ _).weakQ, hK _ _ ?_⟩) | (refine ⟨_, _, Or.inl (d.1 _ _ _ _), (by first | exact ⟨[], (List.append_nil _).symm⟩ | exact ⟨_, rfl⟩), hK _ _ ?_⟩) | (refine ⟨_, _, Or.inl (d.1 _ _ _ _), hK _ _ ?_⟩) | (refine ⟨_, _, Or.inl (d.1 _ _ _ _).weakQ, hK _ _ ?_⟩) | (refine ⟨_, _, Or.inl (d.2.1 _ _), (by first | exact ⟨[], (List.append_nil _).symm⟩ | exact ⟨_, rfl⟩), hK _ _ ?_⟩) | (refine ⟨_, _, Or.inl (d.2.1 _ _), hK _ _ ?_⟩) | (refine ⟨_, _, Or.inl (d.2.1 _ _).weakQ, hK _ _ ?_⟩) | (refine ⟨_, _, Or.inl (d.2.1 _ _ rfl), (by first | exact ⟨[], (List.append_nil _).symm⟩ | exact ⟨_, rfl⟩), hK _ _ ?_⟩) | (refine ⟨_, _, Or.inl (d.2.1 _ _ rfl), hK _ _ ?_⟩) | (refine ⟨_, _, Or.inl (d.2.1 _ _ rfl).weakQ, hK _ _ ?_⟩) | (refine ⟨_, _, Or.inl (d.2.1 _ _ _), (by first | exact ⟨[], (List.append_nil _).symm⟩ | exact ⟨_, rfl⟩), hK _ _ ?_⟩) | (refine ⟨_, _, Or.inl (d.2.1 _ _ _), hK _ _ ?_⟩) | (refine ⟨_, _, Or.inl (d.2.1 _ _ _).weakQ, hK _ _ ?_⟩) | (refine ⟨_, _, Or.inl (d.2.1 _ _ _ _), (by first | exact ⟨[], (List.append_nil _).symm⟩ | exact ⟨_, rfl⟩), hK _ _ ?_⟩) | (refine ⟨_, _, Or.inl (d.2.1 _ _ _ _), hK _ _ ?_⟩) | (refine ⟨_, _, Or.inl (d.2.1 _ _ _ _).weakQ, hK _ _ ?_⟩) | (refine ⟨_, _, Or.inl (d.2.2.1 _ _), (by first | exact ⟨[], (List.append_nil _).symm⟩ | exact ⟨_, rfl⟩), hK _ _ ?_⟩) | (refine ⟨_, _, Or.inl (d.2.2.1 _ _), hK _ _ ?_⟩) | (refine ⟨_, _, Or.inl (d.2.2.1 _ _).weakQ, hK _ _ ?_⟩) | (refine ⟨_, _, Or.inl (d.2.2.1 _ _ rfl), (by first | exact ⟨[], (List.append_nil _).symm⟩ | exact ⟨_, rfl⟩), hK _ _ ?_⟩) | (refine ⟨_, _, Or.inl (d.2.2.1 _ _ rfl), hK _ _ ?_⟩) | (refine ⟨_, _, Or.inl (d.2.2.1 _ _ rfl).weakQ, hK _ _ ?_⟩) | (refine ⟨_, _, Or.inl (d.2.2.1 _ _ _), (by first | exact ⟨[], (List.append_nil _).symm⟩ | exact ⟨_, rfl⟩), hK _ _ ?_⟩) | (refine ⟨_, _, Or.inl (d.2.2.1 _ _ _), hK _ _ ?_⟩) | (refine ⟨_, _, Or.inl (d.2.2.1 _ _ _).weakQ, hK _ _ ?_⟩) | (refine ⟨_, _, Or.inl (d.2.2.1 _ _ _ _), (by first | exact ⟨[], (List.append_nil _).symm⟩ | exact ⟨_, rfl⟩), hK _ _ ?_⟩) | (refine ⟨_, _, Or.inl (d.2.2.1 _ _ _ _), hK _ _ ?_⟩) | (refine ⟨_, _, Or.inl (d.2.2.1 _ _ _ _).weakQ, hK _ _ ?_⟩) | (refine ⟨_, _, Or.inl (d.2.2.2.1 _ _), (by first | exact ⟨[], (List.append_nil _).symm⟩ | exact ⟨_, rfl⟩), hK _ _ ?_⟩) | (refine ⟨_, _, Or.inl (d.2.2.2.1 _ _), hK _ _ ?_⟩) | (refine ⟨_, _, Or.inl (d.2.2.2.1 _ _).weakQ, hK _ _ ?_⟩) | (refine ⟨_, _, Or.inl (d.2.2.2.1 _ _ rfl), (by first | exact ⟨[], (List.append_nil _).symm⟩ | exact ⟨_, rfl⟩), hK _ _ ?_⟩) | (refine ⟨_, _, Or.inl (d.2.2.2.1 _ _ rfl), hK _ _ ?_⟩) | (refine ⟨_, _, Or.inl (d.2.2.2.1 _ _ rfl).weakQ, hK _ _ ?_⟩) | (refine ⟨_, _, Or.inl (d.2.2.2.1 _ _ _), (by first | exact ⟨[], (List.append_nil _).symm⟩ | exact ⟨_, rfl⟩), hK _ _ ?_⟩) | (refine ⟨_, _, Or.inl (d.2.2.2.1 _ _ _), hK _ _ ?_⟩) | (refine ⟨_, _, Or.inl (d.2.2.2.1 _ _ _).weakQ, hK _ _ ?_⟩) | (refine ⟨_, _, Or.inl (d.2.2.2.1 _ _ _ _), (by first | exact ⟨[], (List.append_nil _).symm⟩ | exact ⟨_, rfl⟩), hK _ _ ?_⟩) | (refine ⟨_, _, Or.inl (d.2.2.2.1 _ _ _ _), hK _ _ ?_⟩) | (refine ⟨_, _, Or.inl (d.2.2.2.1 _ _ _ _).weakQ, hK _ _ ?_⟩) | (refine ⟨_, _, Or.inr ⟨e.1 _, rfl⟩, (by first | exact ⟨[], (List.append_nil _).symm⟩ | exact ⟨_, rfl⟩), hK _ _ ?_⟩) | (refine ⟨_, _, Or.inr ⟨e.1 _, rfl⟩, hK _ _ ?_⟩) | (refine ⟨_, _, Or.inr ⟨e.2.1 _, rfl⟩, (by first | exact ⟨[], (List.append_nil _).symm⟩ | exact ⟨_, rfl⟩), hK _ _ ?_⟩) | (refine ⟨_, _, Or.inr ⟨e.2.1 _, rfl⟩, hK _ _ ?_⟩)); clear hK K)
    | (with_reducible refine lopsN_nil ?_)
    | (with_reducible first | refine lavc_reg ?_ | refine lavc_seq ?_ | refine lavc_block ?_ | refine lavc_skip ?_ | refine lavc_exit ?_ | refine lavc_ret ?_ | refine lavcR_round ?_)
    | (simp only [↓reduceIte, Nat.reduceEqDiff, reduceCtorEq]))
  exact q.out) : p := h l c d e q
end Go.Abs
namespace Go.Abs
set_option linter.unusedVariables false
set_option linter.unusedSimpArgs false
variable {P : Program} {G : Glob}
/-- All that there is at a law's begin may only be read. -/
def lawSig (W : World) : Sig := ⟨fun _ _ => none, fun B => B < W.heap.size⟩
theorem ACall.law {n : FuncId} {args : List AV} {us : Array Value} {W : World} {b : Bool} (h : ACall P G true n args [] (.v (.bool b)) []) (hu : us.size = args.length) (ha : ∀ j, j < args.length → AR (lawSig W) W (args.getD j .any) (us.getD j undef)) (hg : ∀ g, AR (lawSig W) W (G g) (.pointer (some ⟨g, 0, none⟩))) :
    Calls P n us W fun e W' => e = .returned (.bool b) ∧ RowKit.Below W.heap.size W W' := by
  have rel : Rel G (lawSig W) [] W := ⟨fun b k l h => (by simp at h), fun b1 b2 k1 k2 l1 l2 h => (by simp at h), fun b k l h => (by simp at h), fun B h => h, fun b ver l h => (by cases h), hg, fun b ver l h => (by cases h)⟩
  refine (h.2 (lawSig W) W us hu ha rel).mono fun e W' ⟨u, he, σ', a1, a2, a3, _⟩ => ?_
  cases a1
  exact ⟨he, a3.os, a3.tape, a3.output, a3.size, fun B hB => a3.frame B hB noImg⟩
variable {H : Type} {enc : TypeId × Value → H} {w : World} {spare : Nat → Bool} {held : Bool}
theorem int_read {fuel : Nat} {k : IntKind} {t : TypeId} {cs : List Value} {x : DataW H × List MemPlace} (ht : P.underlying t = some (.int k)) (h : DataW.trod enc P w 0 spare held fuel t cs = some x) : ∃ y, cs = [.int k y] ∧ (Lit.int k y).wf = true := by
  obtain ⟨n, rfl, _, hw⟩ := DataW.trod_int ht h
  exact ⟨n, rfl, hw⟩
/-- An array of numbers. -/
theorem array_arg {n : Nat} {k : IntKind} {t e : TypeId} {v : Value} {d : DataW H} {ps : List MemPlace} {base : Nat} (ht : P.underlying t = some (.array n e)) (he : P.underlying e = some (.int k)) (hce : P.cellsOf e = 1) (hct : P.cellsOf t = n) (hv : Value.okWide P w .any base t v) (h : DataW.Trod enc P w 0 spare held t v d ps) :
    ∃ l : List Int, v = .agg (l.map (Value.int k)).toArray ∧ l.length = n ∧ ∀ x ∈ l, (Lit.int k x).wf = true := by
  unfold Value.okWide at hv
  simp only [ht] at hv
  obtain ⟨cs, rfl, hsz, _⟩ := hv
  obtain ⟨fuel, h⟩ := h
  obtain ⟨xs, m, _, _, _, hxl, hel⟩ := DataW.trod_array ht h
  have key : ∀ i, i < n → ∃ y, cs[i]? = some (.int k y) ∧ (Lit.int k y).wf = true := by
    intro i hi
    have := hel i hi
    rw [List.getElem?_eq_getElem (by omega)] at this
    obtain ⟨y, hy, hw⟩ := int_read he this
    rw [hce, Nat.mul_one] at hy
    refine ⟨y, ?_, hw⟩
    have h1 := congrArg (fun l => l[0]?) hy
    simpa [Value.cells] using h1
  refine ⟨cs.toList.map fun v => match v with | .int _ y => y | _ => 0, ?_, by simp [hsz, hct], fun x hx => ?_⟩
  · congr 1
    apply Array.ext_getElem?
    intro i
    by_cases hi : i < n
    · obtain ⟨y, hy, _⟩ := key i hi
      simp [hy]
    · rw [Array.getElem?_eq_none (by omega), Array.getElem?_eq_none (by simp; omega)]
  · obtain ⟨v, hv, rfl⟩ := List.mem_map.1 hx
    obtain ⟨i, hi, rfl⟩ := List.mem_iff_getElem.1 hv
    have hi' : i < n := by simp at hi; omega
    obtain ⟨y, hy, hw⟩ := key i hi'
    have : cs.toList[i] = .int k y := by
      have := Array.getElem?_eq_some_iff.1 hy
      simpa using this.2
    rw [this]
    exact hw
theorem array_ar {σ : Sig} (k : IntKind) (l : List Int) : AR σ w (.agg (ints k l)) (.agg (l.map (Value.int k)).toArray) := by
  refine .agg _ (by simp [ints_length]) (fun j hj => ?_)
  rw [ints_length] at hj
  rw [ints_get hj]
  simp [List.getD_eq_getElem?_getD, hj]
  exact .v _
theorem u8_wf {l : List Int} (h : ∀ x ∈ l, (Lit.int .u8 x).wf = true) : ∀ x ∈ l, 0 ≤ x ∧ x ≤ 255 := by
  intro x hx
  have := h x hx
  simp [Lit.wf, IntKind.min, IntKind.max, IntKind.signed, IntKind.bits] at this
  omega
/-- What may be looked at in two ways. -/
def AvLe (x y : AV) : Prop := ∀ (σ : Sig) (w : World) (u : Value), AR σ w x u → AR σ w y u
theorem AvLe.refl (x : AV) : AvLe x x := fun _ _ _ h => h
theorem AvLe.nil : AvLe (.v (.slice none 0 0)) (.vsl 0 [] none) := fun σ w u h => by
  cases h
  exact .vsl0 _ _ (fun c hc => by cases hc)
theorem PCall.le {n : FuncId} {args args' : List AV} {r : AV} (h : PCall P G n args' r) (hl : args.length = args'.length) (hle : ∀ j, j < args.length → AvLe (args.getD j .any) (args'.getD j .any)) : PCall P G n args r :=
  fun H => ⟨(h H).1, fun σ w us h1 h2 rel => (h H).2 σ w us (h1.trans hl) (fun j hj => hle j (by omega) _ _ _ (h2 j (by omega))) rel⟩
end Go.Abs
namespace Go.Abs
open Go.Deep
set_option linter.unusedVariables false
set_option linter.unusedSimpArgs false
variable {P : Program} {H : Type} {enc : TypeId × Value → H} {w : World} {spare : Nat → Bool} {held : Bool}
/-- How data of a kind are looked at: their cells. -/
structure Rd (α : Type) where
  sz : Nat
  av : α → List AV
  wf : α → Prop
  len : ∀ y, wf y → (av y).length = sz
  dat : {H : Type} → α → DataW H → Prop
def Rd.Is {α : Type} (r : Rd α) (enc : TypeId × Value → H) (P : Program) (w : World) (spare : Nat → Bool) (held : Bool) (t : TypeId) : Prop :=
  ∀ fuel cs x, DataW.trod enc P w 0 spare held fuel t cs = some x → ∃ y, r.wf y ∧ cs.length = r.sz ∧ (∀ j, j < r.sz → AR (lawSig w) w ((r.av y).getD j .any) (cs.getD j undef)) ∧ r.dat y x.1
def Rd.int (k : IntKind) : Rd Int := ⟨1, fun y => [.v (.int k y)], fun y => (Lit.int k y).wf = true, fun _ _ => rfl, fun _ _ => True⟩
theorem Rd.int_is {k : IntKind} {t : TypeId} (ht : P.underlying t = some (.int k)) : (Rd.int k).Is enc P w spare held t := by
  intro fuel cs x h
  obtain ⟨y, rfl, hw⟩ := int_read ht h
  refine ⟨y, hw, rfl, fun j hj => ?_, trivial⟩
  obtain rfl : j = 0 := by have : j < 1 := hj; omega
  exact .v _
def Rd.str : Rd ByteArray := ⟨1, fun y => [.v (.string y)], fun s => s.size ≤ maxLen, fun _ _ => rfl, fun _ _ => True⟩
def Rd.bool : Rd Bool := ⟨1, fun y => [.v (.bool y)], fun _ => True, fun _ _ => rfl, fun _ _ => True⟩
def Rd.slice {α : Type} (r : Rd α) : Rd (List α) := ⟨1, fun l => [.vsl l.length (l.flatMap r.av) none], fun l => l.length ≤ maxLen ∧ ∀ y ∈ l, r.wf y, fun _ _ => rfl, fun l d => l = [] ∨ ∃ els sp, d = .slice els sp ∧ els.length = l.length ∧ ∀ i, i < l.length → ∃ y e, l[i]? = some y ∧ els[i]? = some e ∧ r.dat y e⟩
def Rd.arr {α : Type} (n : Nat) (r : Rd α) : Rd (List α) := ⟨n * r.sz, fun l => l.flatMap r.av, fun l => l.length = n ∧ ∀ y ∈ l, r.wf y, fun l h => by
  obtain ⟨rfl, h⟩ := h
  induction l with
  | nil => simp
  | cons y l ih =>
    rw [List.flatMap_cons, List.length_append, r.len y (h y List.mem_cons_self), ih (fun z hz => h z (List.mem_cons_of_mem _ hz)), List.length_cons, Nat.succ_mul, Nat.add_comm], fun _ _ => True⟩
/-- Where a row's cell lies. -/
theorem flat_at {α : Type} (r : Rd α) : ∀ (l : List α) (j : Nat), (∀ y ∈ l, r.wf y) → j < l.length * r.sz → ∃ i y, i < l.length ∧ l[i]? = some y ∧ j = i * r.sz + j % r.sz ∧ j % r.sz < r.sz ∧ (l.flatMap r.av)[j]? = (r.av y)[j % r.sz]?
  | [], j, _, h => by simp at h
  | y :: l, j, hw, h => by
    have hz : 0 < r.sz := Nat.pos_of_ne_zero fun e => by simp [e] at h
    have hy := r.len y (hw y List.mem_cons_self)
    by_cases hj : j < r.sz
    · refine ⟨0, y, by simp, rfl, by rw [Nat.mod_eq_of_lt hj]; omega, Nat.mod_lt _ hz, ?_⟩
      rw [List.flatMap_cons, List.getElem?_append_left (by omega), Nat.mod_eq_of_lt hj]
    · rw [List.length_cons, Nat.succ_mul] at h
      obtain ⟨i, y', h1, h2, h3, h4, h5⟩ := flat_at r l (j - r.sz) (fun z hz => hw z (List.mem_cons_of_mem _ hz)) (by omega)
      have hm : (j - r.sz) % r.sz = j % r.sz := (Nat.mod_eq_sub_mod (by omega)).symm
      rw [hm] at h3 h4 h5
      refine ⟨i + 1, y', by simp; omega, by simpa using h2, by rw [Nat.succ_mul]; omega, h4, ?_⟩
      rw [List.flatMap_cons, List.getElem?_append_right (by omega), hy, h5]
theorem Rd.slice_is {α : Type} [Inhabited α] {r : Rd α} {e t : TypeId} (ht : P.underlying t = some (.slice e)) (hsz : P.cellsOf e = r.sz) (hpos : 0 < r.sz) (hel : r.Is enc P w spare held e) : r.slice.Is enc P w spare held t := by
  intro fuel cs x h
  rcases open_slice ht h with ⟨rfl, _⟩ | ⟨a, len, cap, m, n, D, Pl, rfl, _, hl, hm, hmm, hxe, hx⟩
  · refine ⟨[], ⟨by simp, by simp⟩, rfl, fun j hj => ?_, .inl rfl⟩
    obtain rfl : j = 0 := by have : j < 1 := hj; omega
    exact .vsl0 _ _ (fun c hc => by cases hc)
  · have hlm : len ≤ m := by rw [hmm]; split <;> omega
    have hc : ∀ i, i < len → ∃ y, (r.wf y ∧ ∀ j, j < r.sz → ∃ u, w.cell? (a.add (i * r.sz + j)) = some u ∧ AR (lawSig w) w ((r.av y).getD j .any) u) ∧ r.dat y (D i) := by
      intro i hi
      obtain ⟨cs', h1, h2⟩ := hx i (by omega)
      obtain ⟨y, hw, hlen, har, hdat⟩ := hel _ _ _ h2
      obtain ⟨_, _, hcell⟩ := World.cells?_some h1
      refine ⟨y, ⟨hw, fun j hj => ⟨cs'.getD j undef, ?_, har j hj⟩⟩, hdat⟩
      have := hcell j (by omega)
      rw [hsz] at this
      have e : a.add (i * r.sz + j) = (a.add (i * r.sz)).add j := by
        unfold Addr.add
        by_cases h1 : i * r.sz = 0 <;> by_cases h2 : j = 0 <;> simp [h1, h2]
        omega
      rw [e, this, List.getD_eq_getElem?_getD, List.getElem?_eq_getElem (by omega)]
      rfl
    obtain ⟨V, hV0⟩ := choose_lt (α := α) (p := fun i y => (r.wf y ∧ ∀ j, j < r.sz → ∃ u, w.cell? (a.add (i * r.sz + j)) = some u ∧ AR (lawSig w) w ((r.av y).getD j .any) u) ∧ r.dat y (D i)) hc
    have hV := fun i hi => (hV0 i hi).1
    have hdt : r.slice.dat ((List.range len).map V) (DataW.slice ((List.range len).map D) ((List.range (m - len)).map fun j => D (len + j))) := by
      refine .inr ⟨_, _, rfl, by simp, fun i hi => ?_⟩
      rw [List.length_map, List.length_range] at hi
      exact ⟨V i, D i, by simp [hi], by simp [hi], (hV0 i hi).2⟩
    have hwf : ∀ y ∈ (List.range len).map V, r.wf y := fun y hy => by
      simp only [List.mem_map, List.mem_range] at hy
      obtain ⟨i, hi, rfl⟩ := hy
      exact (hV i hi).1
    refine ⟨(List.range len).map V, ⟨by simp; omega, hwf⟩, rfl, fun j hj => ?_, by rw [hxe]; exact hdt⟩
    obtain rfl : j = 0 := by have : j < 1 := hj; omega
    show AR (lawSig w) w (.vsl ((List.range len).map V).length (((List.range len).map V).flatMap r.av) none) (.slice (some a) len cap)
    have hll : ((List.range len).map V).length = len := by simp
    have hfl : (((List.range len).map V).flatMap r.av).length = len * r.sz := by
      have := (r.arr len).len ((List.range len).map V) ⟨hll, hwf⟩
      exact this
    rw [hll]
    have key : ∀ j, j < len * r.sz → ∃ u, w.cell? (a.add j) = some u ∧ AR (lawSig w) w ((((List.range len).map V).flatMap r.av).getD j .any) u := by
      intro j hj
      obtain ⟨i, y, h1, h2, h3, h4, h5⟩ := flat_at r ((List.range len).map V) j hwf (by rw [hll]; exact hj)
      rw [hll] at h1
      obtain rfl : V i = y := by simpa [h1] using h2
      obtain ⟨u, g1, g2⟩ := (hV i h1).2 _ h4
      refine ⟨u, by rw [h3]; exact g1, ?_⟩
      rw [List.getD_eq_getElem?_getD, h5, ← List.getD_eq_getElem?_getD]
      exact g2
    by_cases h0 : len * r.sz = 0
    · have : len = 0 := (Nat.mul_eq_zero.1 h0).resolve_right (by omega)
      subst this
      exact .vsl0 _ _ (fun c hc => by cases hc)
    · obtain ⟨u0, c0, _⟩ := key 0 (by omega)
      obtain ⟨ab, ao, asp⟩ := a
      have hsp : asp = none := by
        cases asp with
        | none => rfl
        | some s => simp [World.cell?, Addr.add] at c0; split at c0 <;> simp at c0
      subst hsp
      have hlt : ab < w.heap.size := by
        rcases Nat.lt_or_ge ab w.heap.size with h | h
        · exact h
        · simp [World.cell?, Addr.add, Array.getElem?_eq_none h] at c0
      refine .vsl ab ao cap (fun j => (w.cell? ⟨ab, ao + j, none⟩).getD undef) hlt (fun j hj => ?_) (fun j hj => ?_) hl (fun c hc => by cases hc)
      · obtain ⟨u, g1, _⟩ := key j (by omega)
        rw [Addr.add_lit] at g1
        rw [g1]
        rfl
      · obtain ⟨u, g1, g2⟩ := key j (by omega)
        rw [Addr.add_lit] at g1
        rw [g1]
        exact g2
theorem Rd.arr_is {α : Type} [Inhabited α] {n : Nat} {r : Rd α} {e t : TypeId} (ht : P.underlying t = some (.array n e)) (hsz : P.cellsOf e = r.sz) (hct : P.cellsOf t = n * r.sz) (hel : r.Is enc P w spare held e) : (r.arr n).Is enc P w spare held t := by
  intro fuel cs x h
  obtain ⟨xs, m, _, _, hcl, hxl, hx⟩ := DataW.trod_array ht h
  have hc : ∀ i, i < n → ∃ y, r.wf y ∧ ∀ j, j < r.sz → AR (lawSig w) w ((r.av y).getD j .any) (cs.getD (i * r.sz + j) undef) := by
    intro i hi
    have h1 := hx i hi
    rw [List.getElem?_eq_getElem (by omega), hsz] at h1
    obtain ⟨y, hw, hlen, har, _⟩ := hel _ _ _ h1
    refine ⟨y, hw, fun j hj => ?_⟩
    have := har j hj
    rwa [List.getD_eq_getElem?_getD (l := (cs.drop (i * r.sz)).take r.sz), List.getElem?_take, if_pos hj, List.getElem?_drop, ← List.getD_eq_getElem?_getD] at this
  obtain ⟨V, hV⟩ := choose_lt (α := α) (p := fun i y => r.wf y ∧ ∀ j, j < r.sz → AR (lawSig w) w ((r.av y).getD j .any) (cs.getD (i * r.sz + j) undef)) hc
  have hwf : ∀ y ∈ (List.range n).map V, r.wf y := fun y hy => by
    simp only [List.mem_map, List.mem_range] at hy
    obtain ⟨i, hi, rfl⟩ := hy
    exact (hV i hi).1
  have hll : ((List.range n).map V).length = n := by simp
  refine ⟨(List.range n).map V, ⟨hll, hwf⟩, by rw [hcl, hct]; rfl, fun j hj => ?_, trivial⟩
  obtain ⟨i, y, h1, h2, h3, h4, h5⟩ := flat_at r ((List.range n).map V) j hwf (by rw [hll]; exact hj)
  rw [hll] at h1
  obtain rfl : V i = y := by simpa [h1] using h2
  show AR (lawSig w) w ((((List.range n).map V).flatMap r.av).getD j .any) (cs.getD j undef)
  rw [List.getD_eq_getElem?_getD (l := ((List.range n).map V).flatMap r.av), h5, ← List.getD_eq_getElem?_getD]
  have := (hV i h1).2 _ h4
  rwa [← h3] at this
theorem Rd.str_is {t : TypeId} (ht : P.underlying t = some .string) : Rd.str.Is enc P w spare held t := by
  intro fuel cs x h
  obtain ⟨y, rfl, _, hw⟩ := DataW.trod_string ht h
  refine ⟨y, hw, rfl, fun j hj => ?_, trivial⟩
  obtain rfl : j = 0 := by have : j < 1 := hj; omega
  exact .v _
theorem Rd.bool_is {t : TypeId} (ht : P.underlying t = some .bool) : Rd.bool.Is enc P w spare held t := by
  intro fuel cs x h
  obtain ⟨y, rfl, _⟩ := DataW.trod_bool ht h
  refine ⟨y, trivial, rfl, fun j hj => ?_, trivial⟩
  obtain rfl : j = 0 := by have : j < 1 := hj; omega
  exact .v _
/-- Numbers in a row. -/
theorem flat_ints (k : IntKind) (l : List Int) : l.flatMap (Rd.int k).av = ints k l := by
  induction l with
  | nil => rfl
  | cons y l ih => rw [List.flatMap_cons, ih]; rfl
/-- Rows of numbers in a row. -/
def rows (k : IntKind) (rs : List (List Int)) : List AV := rs.map fun r => .vsl r.length (ints k r) none
theorem rows_length (k : IntKind) (rs : List (List Int)) : (rows k rs).length = rs.length := by simp [rows]
theorem flat_rows (k : IntKind) (rs : List (List Int)) : rs.flatMap (Rd.int k).slice.av = rows k rs := by
  induction rs with
  | nil => rfl
  | cons y l ih =>
    rw [List.flatMap_cons, ih]
    show AV.vsl y.length (y.flatMap (Rd.int k).av) none :: rows k l = _
    rw [flat_ints]
    rfl
/-- Texts in a row. -/
def strs (ss : List ByteArray) : List AV := ss.map fun s => .v (.string s)
theorem strs_length (ss : List ByteArray) : (strs ss).length = ss.length := by simp [strs]
theorem flat_strs (ss : List ByteArray) : ss.flatMap Rd.str.av = strs ss := by
  induction ss with
  | nil => rfl
  | cons y l ih => rw [List.flatMap_cons, ih]; rfl
theorem rd_slice {α : Type} (r : Rd α) (l : List α) : (r.slice.av l).getD 0 .any = .vsl l.length (l.flatMap r.av) none := rfl
theorem rd_arr {α : Type} (n : Nat) (r : Rd α) (l : List α) : (r.arr n).av l = l.flatMap r.av := rfl
theorem okWide_agg {n : Nat} {t e : TypeId} {v : Value} {base : Nat} {r : Reach} (ht : P.underlying t = some (.array n e)) (hv : Value.okWide P w r base t v) : ∃ us, v = .agg us := by
  unfold Value.okWide at hv
  simp only [ht] at hv
  obtain ⟨cs, rfl, _⟩ := hv
  exact ⟨cs, rfl⟩
theorem u8_wfs {rs : List (List Int)} (h : ∀ r ∈ rs, (Rd.int .u8).slice.wf r) : ∀ r ∈ rs, ∀ x ∈ r, 0 ≤ x ∧ x ≤ 255 := fun r hr => u8_wf (h r hr).2
/-- A laid variable's cells. -/
theorem laid_ar {g : Nat} {cs : List Value} {xs : List AV} (hc : ∀ i, w.cell? ⟨g, i, none⟩ = cs[i]?) (h0 : 0 < cs.length) (hx : xs = cs.map .v) : AR (lawSig w) w (.vptr xs 0) (.pointer (some ⟨g, 0, none⟩)) := by
  subst hx
  have hlt : g < w.heap.size := by
    rcases Nat.lt_or_ge g w.heap.size with h | h
    · exact h
    · have := hc 0
      rw [List.getElem?_eq_getElem h0] at this
      simp [World.cell?, Array.getElem?_eq_none h] at this
  refine .vptr (off := 0) g 0 (fun j => cs.getD j undef) hlt (fun j hj => ?_) (fun j hj => ?_)
  · rw [List.length_map] at hj
    rw [Nat.zero_add, hc, List.getElem?_eq_getElem hj]
    simp [List.getD_eq_getElem?_getD, hj]
  · rw [List.length_map] at hj
    simp only [List.getD_eq_getElem?_getD, List.getElem?_map, List.getElem?_eq_getElem hj, Option.map_some, Option.getD_some]
    exact .v _
/-- An argument of one cell. -/
theorem Rd.arg1 {α : Type} {r : Rd α} {t : TypeId} {v : Value} {d : DataW H} {ps : List MemPlace} (his : r.Is enc P w spare held t) (h1 : r.sz = 1) (h : DataW.Trod enc P w 0 spare held t v d ps) (hv : v.cells = #[v]) : ∃ y, r.wf y ∧ AR (lawSig w) w ((r.av y).getD 0 .any) v := by
  obtain ⟨fuel, h⟩ := h
  obtain ⟨y, hw, _, ha, _⟩ := his _ _ _ h
  have := ha 0 (by omega)
  rw [hv] at this
  exact ⟨y, hw, this⟩
theorem Rd.arg1d {α : Type} {r : Rd α} {t : TypeId} {v : Value} {d : DataW H} {ps : List MemPlace} (his : r.Is enc P w spare held t) (h1 : r.sz = 1) (h : DataW.Trod enc P w 0 spare held t v d ps) (hv : v.cells = #[v]) : ∃ y, r.wf y ∧ AR (lawSig w) w ((r.av y).getD 0 .any) v ∧ r.dat y d := by
  obtain ⟨fuel, h⟩ := h
  obtain ⟨y, hw, _, ha, hd⟩ := his _ _ _ h
  have := ha 0 (by omega)
  rw [hv] at this
  exact ⟨y, hw, this, hd⟩
/-- An argument that is a row. -/
theorem Rd.argN {α : Type} {r : Rd α} {t : TypeId} {us : Array Value} {d : DataW H} {ps : List MemPlace} (his : r.Is enc P w spare held t) (h : DataW.Trod enc P w 0 spare held t (.agg us) d ps) : ∃ y, r.wf y ∧ AR (lawSig w) w (.agg (r.av y)) (.agg us) := by
  obtain ⟨fuel, h⟩ := h
  obtain ⟨y, hw, hl, ha, _⟩ := his _ _ _ h
  have hl' : us.size = r.sz := by simpa [Value.cells] using hl
  refine ⟨y, hw, .agg us (by rw [r.len y hw]; exact hl') (fun j hj => ?_)⟩
  rw [r.len y hw] at hj
  have := ha j hj
  simpa [Value.cells, List.getD_eq_getElem?_getD] using this
end Go.Abs
namespace Go.Abs
open Go.Deep
set_option linter.unusedVariables false
set_option linter.unusedSimpArgs false
variable {P : Program} {H : Type} {enc : TypeId × Value → H} {w : World} {spare : Nat → Bool} {held : Bool}
def Rd.unit : Rd Unit := ⟨0, fun _ => [], fun _ => True, fun _ _ => rfl, fun _ _ => True⟩
def Rd.pair {α β : Type} (r : Rd α) (q : Rd β) : Rd (α × β) := ⟨r.sz + q.sz, fun y => r.av y.1 ++ q.av y.2, fun y => r.wf y.1 ∧ q.wf y.2, fun y h => by rw [List.length_append, r.len _ h.1, q.len _ h.2], fun _ _ => True⟩
/-- Fields from a place on. -/
def Rd.FIs {α : Type} (r : Rd α) (enc : TypeId × Value → H) (P : Program) (w : World) (spare : Nat → Bool) (held : Bool) (fs : List Field) (o : Nat) : Prop :=
  ∀ (n : Nat) (cs : List Value) (xs : List (DataW H × List MemPlace)), xs.length = fs.length → (∀ (i : Nat) (f : Field), fs[i]? = some f → DataW.trod enc P w 0 spare held n f.type ((cs.drop f.offset).take (P.cellsOf f.type)) = xs[i]?) →
    ∃ y, r.wf y ∧ ∀ j, j < r.sz → AR (lawSig w) w ((r.av y).getD j .any) (cs.getD (o + j) undef)
theorem Rd.fields_nil (o : Nat) : Rd.unit.FIs enc P w spare held [] o := fun n cs xs _ _ => ⟨(), trivial, fun j hj => absurd hj (Nat.not_lt_zero _)⟩
theorem Rd.fields_cons {α β : Type} {r : Rd α} {q : Rd β} {f : Field} {fs : List Field} {o : Nat} (ho : f.offset = o) (hc : P.cellsOf f.type = r.sz) (hr : r.Is enc P w spare held f.type) (hq : q.FIs enc P w spare held fs (o + r.sz)) : (r.pair q).FIs enc P w spare held (f :: fs) o := by
  intro n cs xs hl h
  obtain ⟨x, xs, rfl⟩ : ∃ x ys, xs = x :: ys := by
    cases xs with
    | nil => simp at hl
    | cons x ys => exact ⟨x, ys, rfl⟩
  have h0 := h 0 f rfl
  obtain ⟨y, hw, hlen, ha, _⟩ := hr _ _ _ h0
  obtain ⟨z, hz, hb⟩ := hq n cs xs (by simpa using hl) (fun i g hg => by simpa using h (i + 1) g (by simpa using hg))
  refine ⟨(y, z), ⟨hw, hz⟩, fun j hj => ?_⟩
  show AR (lawSig w) w ((r.av y ++ q.av z).getD j .any) _
  have hy := r.len y hw
  by_cases hjr : j < r.sz
  · have := ha j hjr
    rw [hc, ho] at this
    rw [List.getD_eq_getElem?_getD, List.getElem?_append_left (by omega), ← List.getD_eq_getElem?_getD]
    rw [List.getD_eq_getElem?_getD (l := (cs.drop o).take r.sz), List.getElem?_take, if_pos hjr, List.getElem?_drop, ← List.getD_eq_getElem?_getD] at this
    exact this
  · have hj' : j - r.sz < q.sz := by have : j < r.sz + q.sz := hj; omega
    have := hb (j - r.sz) hj'
    rw [List.getD_eq_getElem?_getD, List.getElem?_append_right (by omega), hy, ← List.getD_eq_getElem?_getD]
    rw [show o + r.sz + (j - r.sz) = o + j from by omega] at this
    exact this
theorem Rd.struct_is {α : Type} {r : Rd α} {t : TypeId} {fs : Array Field} (ht : P.underlying t = some (.struct fs)) (hsz : P.cellsOf t = r.sz) (hd : ∀ (y : α) (d : DataW H), r.dat y d) (hf : r.FIs enc P w spare held fs.toList 0) : r.Is enc P w spare held t := by
  intro fuel cs x h
  obtain ⟨xs, n, _, _, hcl, hxl, hx⟩ := DataW.trod_struct ht h
  obtain ⟨y, hw, ha⟩ := hf n cs xs (by simpa using hxl) (fun i f hi => hx i f (by simpa using hi))
  refine ⟨y, hw, by rw [hcl, hsz], fun j hj => ?_, hd _ _⟩
  have := ha j hj
  rwa [Nat.zero_add] at this
theorem okWide_struct {fs : Array Field} {t : TypeId} {v : Value} {base : Nat} {r : Reach} (ht : P.underlying t = some (.struct fs)) (hv : Value.okWide P w r base t v) : ∃ us, v = .agg us := by
  unfold Value.okWide at hv
  simp only [ht] at hv
  obtain ⟨cs, rfl, _⟩ := hv
  exact ⟨cs, rfl⟩
end Go.Abs
namespace Go.Abs
open Go.Deep
set_option linter.unusedVariables false
set_option linter.unusedSimpArgs false
variable {P : Program} {H : Type} {enc : TypeId × Value → H} {w : World} {spare : Nat → Bool} {held : Bool}
/-- Data read at that fuel. -/
def Rd.At {α : Type} (r : Rd α) (f : Nat) (enc : TypeId × Value → H) (P : Program) (w : World) (spare : Nat → Bool) (held : Bool) (t : TypeId) : Prop :=
  ∀ cs x, DataW.trod enc P w 0 spare held f t cs = some x → ∃ y, r.wf y ∧ cs.length = r.sz ∧ ∀ j, j < r.sz → AR (lawSig w) w ((r.av y).getD j .any) (cs.getD j undef)
theorem Rd.Is.at {α : Type} {r : Rd α} {t : TypeId} (h : r.Is enc P w spare held t) (f : Nat) : r.At f enc P w spare held t := fun cs x hx => by
  obtain ⟨y, h1, h2, h3, _⟩ := h f cs x hx
  exact ⟨y, h1, h2, h3⟩
theorem Rd.slice_at {α : Type} [Inhabited α] {r : Rd α} {e t : TypeId} {f : Nat} (ht : P.underlying t = some (.slice e)) (hsz : P.cellsOf e = r.sz) (hpos : 0 < r.sz) (hel : ∀ n, f = n + 1 → r.At n enc P w spare held e) : r.slice.At f enc P w spare held t := by
  intro cs x h
  rcases DataW.trod_slice ht h with ⟨rfl, _⟩ | ⟨a, len, cap, elems, rest, n, hf, rfl, rfl, hb, hl, hm, hlen, hx, hsp, hns⟩
  · refine ⟨[], ⟨by simp, by simp⟩, rfl, fun j hj => ?_⟩
    obtain rfl : j = 0 := by have : j < 1 := hj; omega
    exact .vsl0 _ _ (fun c hc => by cases hc)
  · have hc : ∀ i, i < len → ∃ y, r.wf y ∧ ∀ j, j < r.sz → ∃ u, w.cell? (a.add (i * r.sz + j)) = some u ∧ AR (lawSig w) w ((r.av y).getD j .any) u := by
      intro i hi
      have h0 := hx i hi
      rw [List.getElem?_eq_getElem (by omega)] at h0
      obtain ⟨cs', h1, h2⟩ := Option.bind_eq_some_iff.1 h0
      obtain ⟨y, hw, hlen, har⟩ := hel n hf _ _ h2
      obtain ⟨_, _, hcell⟩ := World.cells?_some h1
      refine ⟨y, hw, fun j hj => ⟨cs'.getD j undef, ?_, har j hj⟩⟩
      have := hcell j (by omega)
      rw [hsz] at this
      have e : a.add (i * r.sz + j) = (a.add (i * r.sz)).add j := by
        unfold Addr.add
        by_cases h1 : i * r.sz = 0 <;> by_cases h2 : j = 0 <;> simp [h1, h2]
        omega
      rw [e, this, List.getD_eq_getElem?_getD, List.getElem?_eq_getElem (by omega)]
      rfl
    obtain ⟨V, hV⟩ := choose_lt (α := α) (p := fun i y => r.wf y ∧ ∀ j, j < r.sz → ∃ u, w.cell? (a.add (i * r.sz + j)) = some u ∧ AR (lawSig w) w ((r.av y).getD j .any) u) hc
    have hwf : ∀ y ∈ (List.range len).map V, r.wf y := fun y hy => by
      simp only [List.mem_map, List.mem_range] at hy
      obtain ⟨i, hi, rfl⟩ := hy
      exact (hV i hi).1
    refine ⟨(List.range len).map V, ⟨by simp; omega, hwf⟩, rfl, fun j hj => ?_⟩
    obtain rfl : j = 0 := by have : j < 1 := hj; omega
    show AR (lawSig w) w (.vsl ((List.range len).map V).length (((List.range len).map V).flatMap r.av) none) (.slice (some a) len cap)
    have hll : ((List.range len).map V).length = len := by simp
    have hfl : (((List.range len).map V).flatMap r.av).length = len * r.sz := by
      have := (r.arr len).len ((List.range len).map V) ⟨hll, hwf⟩
      exact this
    rw [hll]
    have key : ∀ j, j < len * r.sz → ∃ u, w.cell? (a.add j) = some u ∧ AR (lawSig w) w ((((List.range len).map V).flatMap r.av).getD j .any) u := by
      intro j hj
      obtain ⟨i, y, h1, h2, h3, h4, h5⟩ := flat_at r ((List.range len).map V) j hwf (by rw [hll]; exact hj)
      rw [hll] at h1
      obtain rfl : V i = y := by simpa [h1] using h2
      obtain ⟨u, g1, g2⟩ := (hV i h1).2 _ h4
      refine ⟨u, by rw [h3]; exact g1, ?_⟩
      rw [List.getD_eq_getElem?_getD, h5, ← List.getD_eq_getElem?_getD]
      exact g2
    by_cases h0 : len * r.sz = 0
    · have : len = 0 := (Nat.mul_eq_zero.1 h0).resolve_right (by omega)
      subst this
      exact .vsl0 _ _ (fun c hc => by cases hc)
    · obtain ⟨u0, c0, _⟩ := key 0 (by omega)
      obtain ⟨ab, ao, asp⟩ := a
      have hsp : asp = none := by
        cases asp with
        | none => rfl
        | some s => simp [World.cell?, Addr.add] at c0; split at c0 <;> simp at c0
      subst hsp
      have hlt : ab < w.heap.size := by
        rcases Nat.lt_or_ge ab w.heap.size with h | h
        · exact h
        · simp [World.cell?, Addr.add, Array.getElem?_eq_none h] at c0
      refine .vsl ab ao cap (fun j => (w.cell? ⟨ab, ao + j, none⟩).getD undef) hlt (fun j hj => ?_) (fun j hj => ?_) hl (fun c hc => by cases hc)
      · obtain ⟨u, g1, _⟩ := key j (by omega)
        rw [Addr.add_lit] at g1
        rw [g1]
        rfl
      · obtain ⟨u, g1, g2⟩ := key j (by omega)
        rw [Addr.add_lit] at g1
        rw [g1]
        exact g2
/-- Fields from a place on, at that fuel. -/
def Rd.FAt {α : Type} (r : Rd α) (n : Nat) (enc : TypeId × Value → H) (P : Program) (w : World) (spare : Nat → Bool) (held : Bool) (fs : List Field) (o : Nat) : Prop :=
  ∀ (cs : List Value) (xs : List (DataW H × List MemPlace)), xs.length = fs.length → (∀ (i : Nat) (f : Field), fs[i]? = some f → DataW.trod enc P w 0 spare held n f.type ((cs.drop f.offset).take (P.cellsOf f.type)) = xs[i]?) →
    ∃ y, r.wf y ∧ ∀ j, j < r.sz → AR (lawSig w) w ((r.av y).getD j .any) (cs.getD (o + j) undef)
theorem Rd.fat_nil (n o : Nat) : Rd.unit.FAt n enc P w spare held [] o := fun cs xs _ _ => ⟨(), trivial, fun j hj => absurd hj (Nat.not_lt_zero _)⟩
theorem Rd.fat_cons {α β : Type} {r : Rd α} {q : Rd β} {n : Nat} {f : Field} {fs : List Field} {o : Nat} (ho : f.offset = o) (hc : P.cellsOf f.type = r.sz) (hr : r.At n enc P w spare held f.type) (hq : q.FAt n enc P w spare held fs (o + r.sz)) : (r.pair q).FAt n enc P w spare held (f :: fs) o := by
  intro cs xs hl h
  obtain ⟨x, xs, rfl⟩ : ∃ x ys, xs = x :: ys := by
    cases xs with
    | nil => simp at hl
    | cons x ys => exact ⟨x, ys, rfl⟩
  have h0 := h 0 f rfl
  obtain ⟨y, hw, hlen, ha⟩ := hr _ _ h0
  obtain ⟨z, hz, hb⟩ := hq cs xs (by simpa using hl) (fun i g hg => by simpa using h (i + 1) g (by simpa using hg))
  refine ⟨(y, z), ⟨hw, hz⟩, fun j hj => ?_⟩
  show AR (lawSig w) w ((r.av y ++ q.av z).getD j .any) _
  have hy := r.len y hw
  by_cases hjr : j < r.sz
  · have := ha j hjr
    rw [hc, ho] at this
    rw [List.getD_eq_getElem?_getD, List.getElem?_append_left (by omega), ← List.getD_eq_getElem?_getD]
    rw [List.getD_eq_getElem?_getD (l := (cs.drop o).take r.sz), List.getElem?_take, if_pos hjr, List.getElem?_drop, ← List.getD_eq_getElem?_getD] at this
    exact this
  · have hj' : j - r.sz < q.sz := by have : j < r.sz + q.sz := hj; omega
    have := hb (j - r.sz) hj'
    rw [List.getD_eq_getElem?_getD, List.getElem?_append_right (by omega), hy, ← List.getD_eq_getElem?_getD]
    rw [show o + r.sz + (j - r.sz) = o + j from by omega] at this
    exact this
theorem Rd.struct_at {α : Type} {r : Rd α} {t : TypeId} {fs : Array Field} {f : Nat} (ht : P.underlying t = some (.struct fs)) (hsz : P.cellsOf t = r.sz) (hf : ∀ n, f = n + 1 → r.FAt n enc P w spare held fs.toList 0) : r.At f enc P w spare held t := by
  intro cs x h
  obtain ⟨xs, n, hn, _, hcl, hxl, hx⟩ := DataW.trod_struct ht h
  obtain ⟨y, hw, ha⟩ := hf n hn cs xs (by simpa using hxl) (fun i f hi => hx i f (by simpa using hi))
  refine ⟨y, hw, by rw [hcl, hsz], fun j hj => ?_⟩
  have := ha j hj
  rwa [Nat.zero_add] at this
/-- Values: a kind, a text, names, values. -/
inductive Val where
  | mk (k : Int) (t : ByteArray) (ns : List ByteArray) (vs : List Val)
instance : Inhabited Val := ⟨.mk 0 ⟨#[]⟩ [] []⟩
theorem Val.ind {p : Val → Prop} (h : ∀ k t ns vs, (∀ v ∈ vs, p v) → p (.mk k t ns vs)) : ∀ v, p v :=
  Val.rec (motive_1 := p) (motive_2 := fun l => ∀ v ∈ l, p v) (fun k t ns vs ih => h k t ns vs ih) (fun _ h => absurd h List.not_mem_nil) (fun v l hv hl => List.forall_mem_cons.2 ⟨hv, hl⟩)
mutual
def Val.cells : Val → List AV
  | .mk k t ns vs => [.v (.int .i64 k), .v (.string t), .vsl ns.length (strs ns) none, .vsl vs.length (cellsL vs) none]
def cellsL : List Val → List AV
  | [] => []
  | v :: l => v.cells ++ cellsL l
end
mutual
def Val.wf : Val → Prop
  | .mk k t ns vs => (Lit.int .i64 k).wf = true ∧ t.size ≤ maxLen ∧ (ns.length ≤ maxLen ∧ ∀ s ∈ ns, s.size ≤ maxLen) ∧ vs.length ≤ maxLen ∧ wfL vs
def wfL : List Val → Prop
  | [] => True
  | v :: l => v.wf ∧ wfL l
end
theorem wfL_iff : ∀ {l : List Val}, wfL l ↔ ∀ v ∈ l, v.wf
  | [] => ⟨fun _ _ h => absurd h List.not_mem_nil, fun _ => trivial⟩
  | v :: l => by rw [wfL, List.forall_mem_cons, wfL_iff]
theorem cellsL_eq : ∀ (l : List Val), cellsL l = l.flatMap Val.cells
  | [] => rfl
  | v :: l => by rw [cellsL, List.flatMap_cons, cellsL_eq l]
theorem Val.cells_length : ∀ v : Val, v.cells.length = 4
  | .mk _ _ _ _ => by rw [Val.cells]; rfl
theorem cellsL_length : ∀ l : List Val, (cellsL l).length = l.length * 4
  | [] => rfl
  | v :: l => by rw [cellsL, List.length_append, Val.cells_length, cellsL_length l, List.length_cons]; omega
theorem cellsL_append : ∀ l m : List Val, cellsL (l ++ m) = cellsL l ++ cellsL m
  | [], m => rfl
  | v :: l, m => by rw [List.cons_append, cellsL, cellsL, cellsL_append l m, List.append_assoc]
theorem cellsL_at : ∀ (l : List Val) (k : Nat), k < l.length → ((cellsL l).drop (k * 4)).take 4 = (l.getD k default).cells
  | v :: l, 0, _ => by
    rw [cellsL, Nat.zero_mul, List.drop_zero, List.take_append_of_le_length (by rw [Val.cells_length]; exact Nat.le_refl _), List.take_of_length_le (by rw [Val.cells_length]; exact Nat.le_refl _)]
    rfl
  | v :: l, k + 1, h => by
    rw [cellsL, show (k + 1) * 4 = v.cells.length + k * 4 from by rw [Val.cells_length]; omega, List.drop_append, show v.cells.length + k * 4 - v.cells.length = k * 4 from by omega, List.drop_of_length_le (by omega), List.nil_append, cellsL_at l k (by simpa using h)]
    rfl
theorem cellsL_take : ∀ (l : List Val) (k : Nat), (cellsL l).take (k * 4) = cellsL (l.take k)
  | [], k => by simp [cellsL]
  | v :: l, 0 => by simp [cellsL]
  | v :: l, k + 1 => by
    rw [List.take_succ_cons, cellsL, cellsL, show (k + 1) * 4 = v.cells.length + k * 4 from by rw [Val.cells_length]; omega, List.take_append, show v.cells.length + k * 4 - v.cells.length = k * 4 from by omega, List.take_of_length_le (by omega), cellsL_take l k]
theorem Val.nr : ∀ v : Val, ∀ x ∈ v.cells, NR x := Val.ind fun k t ns vs ih x hx => by
  rw [Val.cells] at hx
  simp only [List.mem_cons, List.not_mem_nil, or_false] at hx
  rcases hx with rfl | rfl | rfl | rfl
  · exact NR.v _
  · exact NR.v _
  · refine NR.vsl fun c hc => ?_
    simp only [strs, List.mem_map] at hc
    obtain ⟨n, _, rfl⟩ := hc
    exact NR.v _
  · refine NR.vsl fun c hc => ?_
    rw [cellsL_eq, List.mem_flatMap] at hc
    obtain ⟨v, h1, h2⟩ := hc
    exact ih v h1 c h2
theorem cellsL_nr (l : List Val) : ∀ x ∈ cellsL l, NR x := fun x hx => by
  rw [cellsL_eq, List.mem_flatMap] at hx
  obtain ⟨v, h1, h2⟩ := hx
  exact v.nr x h2
def Rd.val : Rd Val := ⟨4, Val.cells, Val.wf, fun y _ => Val.cells_length y, fun _ _ => True⟩
theorem val_at {t tn : TypeId} {f0 f1 f2 f3 : Field} (ht : P.underlying t = some (.struct #[f0, f1, f2, f3])) (hsz : P.cellsOf t = 4)
    (o0 : f0.offset = 0) (o1 : f1.offset = 1) (o2 : f2.offset = 2) (o3 : f3.offset = 3)
    (c0 : P.cellsOf f0.type = 1) (c1 : P.cellsOf f1.type = 1) (c2 : P.cellsOf f2.type = 1) (c3 : P.cellsOf f3.type = 1)
    (u0 : P.underlying f0.type = some (.int .i64)) (u1 : P.underlying f1.type = some .string) (u2 : P.underlying f2.type = some (.slice tn)) (un : P.underlying tn = some .string) (cn : P.cellsOf tn = 1)
    (u3 : P.underlying f3.type = some (.slice t)) (f : Nat) : Rd.val.At f enc P w spare held t := by
  induction f using Nat.strongRecOn with
  | _ f ih =>
    have hs : (Rd.pair (Rd.int .i64) (Rd.pair Rd.str (Rd.pair Rd.str.slice (Rd.pair Rd.val.slice Rd.unit)))).At f enc P w spare held t := by
      refine Rd.struct_at ht (by rw [hsz]; rfl) (fun n hn => ?_)
      refine Rd.fat_cons o0 c0 ((Rd.int_is u0).at n) ?_
      refine Rd.fat_cons o1 c1 ((Rd.str_is u1).at n) ?_
      refine Rd.fat_cons o2 c2 ((Rd.slice_is u2 cn (by decide) (Rd.str_is un)).at n) ?_
      refine Rd.fat_cons o3 c3 ?_ (Rd.fat_nil n _)
      exact Rd.slice_at u3 (by rw [hsz]; rfl) (by show 0 < 4; decide) (fun m hm => ih m (by omega))
    intro cs x h
    obtain ⟨⟨k, s, ns, vs, _⟩, ⟨w1, w2, w3, w4, _⟩, hl, ha⟩ := hs cs x h
    refine ⟨.mk k s ns vs, ?_, hl, fun j hj => ?_⟩
    · show Val.wf _
      rw [Val.wf, wfL_iff]
      exact ⟨w1, w2, w3, w4⟩
    have := ha j hj
    have e : (Rd.pair (Rd.int .i64) (Rd.pair Rd.str (Rd.pair Rd.str.slice (Rd.pair Rd.val.slice Rd.unit)))).av (k, s, ns, vs, ()) = Val.cells (.mk k s ns vs) := by
      show [AV.v (.int .i64 k)] ++ ([AV.v (.string s)] ++ ([AV.vsl ns.length (ns.flatMap Rd.str.av) none] ++ ([AV.vsl vs.length (vs.flatMap Val.cells) none] ++ []))) = _
      rw [flat_strs, Val.cells, cellsL_eq]
      rfl
    rw [e] at this
    exact this
theorem Rd.val_is {t : TypeId} (h : ∀ f, Rd.val.At f enc P w spare held t) : Rd.val.Is enc P w spare held t := fun f cs x hx => by
  obtain ⟨y, h1, h2, h3⟩ := h f cs x hx
  exact ⟨y, h1, h2, h3, trivial⟩
theorem flat_vals (l : List Val) : l.flatMap Rd.val.av = cellsL l := (cellsL_eq l).symm
end Go.Abs
namespace Go.Abs.S
open Go.Proofs
theorem mixed : Tryd.prog.follows .mixedOrders = true := by kernel_rfl
set_option maxRecDepth 100000
def lay_escutcheon_hour_months : List Int := [31, 28, 31, 30, 31, 30, 31, 31, 30, 31, 30, 31]
def cells_escutcheon_hour_months : List Value := lay_escutcheon_hour_months.map (Value.int .i64)
def av_escutcheon_hour_months : AV := .vptr (ints .i64 lay_escutcheon_hour_months) 0
def lay_unicode_utf8_first : List Int := List.map (fun (n : Nat) => (n : Int)) Go.Pinned.utf8FirstZ
def cells_unicode_utf8_first : List Value := lay_unicode_utf8_first.map (Value.int .u8)
def av_unicode_utf8_first : AV := .vptr (ints .u8 lay_unicode_utf8_first) 0
def lay_unicode_utf8_acceptRanges : List Int := [128, 191, 160, 191, 128, 159, 144, 191, 128, 143, 0, 0, 0, 0, 0, 0, 0, 0, 0, 0, 0, 0, 0, 0, 0, 0, 0, 0, 0, 0, 0, 0]
def cells_unicode_utf8_acceptRanges : List Value := lay_unicode_utf8_acceptRanges.map (Value.int .u8)
def av_unicode_utf8_acceptRanges : AV := .vptr (ints .u8 lay_unicode_utf8_acceptRanges) 0
def lay_internal_strconv_uint64pow10 : List Int := [1, 10, 100, 1000, 10000, 100000, 1000000, 10000000, 100000000, 1000000000, 10000000000, 100000000000, 1000000000000, 10000000000000, 100000000000000, 1000000000000000, 10000000000000000, 100000000000000000, 1000000000000000000, 10000000000000000000]
def cells_internal_strconv_uint64pow10 : List Value := lay_internal_strconv_uint64pow10.map (Value.int .u64)
def av_internal_strconv_uint64pow10 : AV := .vptr (ints .u64 lay_internal_strconv_uint64pow10) 0
def lay_math_bits_deBruijn32tab : List Int := [0, 1, 28, 2, 29, 14, 24, 3, 30, 22, 20, 15, 25, 17, 4, 8, 31, 27, 13, 23, 21, 19, 16, 7, 26, 12, 18, 6, 11, 5, 10, 9]
def cells_math_bits_deBruijn32tab : List Value := lay_math_bits_deBruijn32tab.map (Value.int .u8)
def av_math_bits_deBruijn32tab : AV := .vptr (ints .u8 lay_math_bits_deBruijn32tab) 0
def lay_math_bits_deBruijn64tab : List Int := [0, 1, 56, 2, 57, 49, 28, 3, 61, 58, 42, 50, 38, 29, 17, 4, 62, 47, 59, 36, 45, 43, 51, 22, 53, 39, 33, 30, 24, 18, 12, 5, 63, 55, 48, 27, 60, 41, 37, 16, 46, 35, 44, 21, 52, 32, 23, 11, 54, 26, 40, 15, 34, 20, 31, 10, 25, 14, 19, 9, 13, 8, 7, 6]
def cells_math_bits_deBruijn64tab : List Value := lay_math_bits_deBruijn64tab.map (Value.int .u8)
def av_math_bits_deBruijn64tab : AV := .vptr (ints .u8 lay_math_bits_deBruijn64tab) 0
/-- What is known of package-level variables. -/
def glob : Glob := fun g => if g = 0 then av_escutcheon_hour_months else if g = 1 then av_unicode_utf8_first else if g = 2 then av_unicode_utf8_acceptRanges else if g = 3 then av_internal_strconv_uint64pow10 else if g = 7 then av_math_bits_deBruijn32tab else if g = 8 then av_math_bits_deBruijn64tab else .any
theorem glob_escutcheon_hour_months : (match av_escutcheon_hour_months with | .vptr xs _ => xs | _ => []) = cells_escutcheon_hour_months.map .v := by
  first | rfl | simp [av_escutcheon_hour_months, cells_escutcheon_hour_months, ints]
@[go_sem] theorem globat0 : glob 0 = .vptr (ints .i64 lay_escutcheon_hour_months) 0 := rfl
theorem nr_escutcheon_hour_months : NR av_escutcheon_hour_months := NR.vptr (by
  intro c hc
  have h : c ∈ cells_escutcheon_hour_months.map AV.v := by rw [← glob_escutcheon_hour_months]; exact hc
  obtain ⟨x, _, rfl⟩ := List.mem_map.1 h
  exact NR.v x)
theorem glob_unicode_utf8_first : (match av_unicode_utf8_first with | .vptr xs _ => xs | _ => []) = cells_unicode_utf8_first.map .v := by
  first | rfl | simp [av_unicode_utf8_first, cells_unicode_utf8_first, ints]
@[go_sem] theorem globat1 : glob 1 = .vptr (ints .u8 lay_unicode_utf8_first) 0 := rfl
theorem nr_unicode_utf8_first : NR av_unicode_utf8_first := NR.vptr (by
  intro c hc
  have h : c ∈ cells_unicode_utf8_first.map AV.v := by rw [← glob_unicode_utf8_first]; exact hc
  obtain ⟨x, _, rfl⟩ := List.mem_map.1 h
  exact NR.v x)
theorem glob_unicode_utf8_acceptRanges : (match av_unicode_utf8_acceptRanges with | .vptr xs _ => xs | _ => []) = cells_unicode_utf8_acceptRanges.map .v := by
  first | rfl | simp [av_unicode_utf8_acceptRanges, cells_unicode_utf8_acceptRanges, ints]
@[go_sem] theorem globat2 : glob 2 = .vptr (ints .u8 lay_unicode_utf8_acceptRanges) 0 := rfl
theorem nr_unicode_utf8_acceptRanges : NR av_unicode_utf8_acceptRanges := NR.vptr (by
  intro c hc
  have h : c ∈ cells_unicode_utf8_acceptRanges.map AV.v := by rw [← glob_unicode_utf8_acceptRanges]; exact hc
  obtain ⟨x, _, rfl⟩ := List.mem_map.1 h
  exact NR.v x)
theorem glob_internal_strconv_uint64pow10 : (match av_internal_strconv_uint64pow10 with | .vptr xs _ => xs | _ => []) = cells_internal_strconv_uint64pow10.map .v := by
  first | rfl | simp [av_internal_strconv_uint64pow10, cells_internal_strconv_uint64pow10, ints]
@[go_sem] theorem globat3 : glob 3 = .vptr (ints .u64 lay_internal_strconv_uint64pow10) 0 := rfl
theorem nr_internal_strconv_uint64pow10 : NR av_internal_strconv_uint64pow10 := NR.vptr (by
  intro c hc
  have h : c ∈ cells_internal_strconv_uint64pow10.map AV.v := by rw [← glob_internal_strconv_uint64pow10]; exact hc
  obtain ⟨x, _, rfl⟩ := List.mem_map.1 h
  exact NR.v x)
theorem glob_math_bits_deBruijn32tab : (match av_math_bits_deBruijn32tab with | .vptr xs _ => xs | _ => []) = cells_math_bits_deBruijn32tab.map .v := by
  first | rfl | simp [av_math_bits_deBruijn32tab, cells_math_bits_deBruijn32tab, ints]
@[go_sem] theorem globat7 : glob 7 = .vptr (ints .u8 lay_math_bits_deBruijn32tab) 0 := rfl
theorem nr_math_bits_deBruijn32tab : NR av_math_bits_deBruijn32tab := NR.vptr (by
  intro c hc
  have h : c ∈ cells_math_bits_deBruijn32tab.map AV.v := by rw [← glob_math_bits_deBruijn32tab]; exact hc
  obtain ⟨x, _, rfl⟩ := List.mem_map.1 h
  exact NR.v x)
theorem glob_math_bits_deBruijn64tab : (match av_math_bits_deBruijn64tab with | .vptr xs _ => xs | _ => []) = cells_math_bits_deBruijn64tab.map .v := by
  first | rfl | simp [av_math_bits_deBruijn64tab, cells_math_bits_deBruijn64tab, ints]
@[go_sem] theorem globat8 : glob 8 = .vptr (ints .u8 lay_math_bits_deBruijn64tab) 0 := rfl
theorem nr_math_bits_deBruijn64tab : NR av_math_bits_deBruijn64tab := NR.vptr (by
  intro c hc
  have h : c ∈ cells_math_bits_deBruijn64tab.map AV.v := by rw [← glob_math_bits_deBruijn64tab]; exact hc
  obtain ⟨x, _, rfl⟩ := List.mem_map.1 h
  exact NR.v x)
theorem glob_nr : GN glob := by
  intro g
  unfold glob
  by_cases e0 : g = 0
  · rw [if_pos e0]
    exact nr_escutcheon_hour_months
  rw [if_neg e0]
  by_cases e1 : g = 1
  · rw [if_pos e1]
    exact nr_unicode_utf8_first
  rw [if_neg e1]
  by_cases e2 : g = 2
  · rw [if_pos e2]
    exact nr_unicode_utf8_acceptRanges
  rw [if_neg e2]
  by_cases e3 : g = 3
  · rw [if_pos e3]
    exact nr_internal_strconv_uint64pow10
  rw [if_neg e3]
  by_cases e7 : g = 7
  · rw [if_pos e7]
    exact nr_math_bits_deBruijn32tab
  rw [if_neg e7]
  by_cases e8 : g = 8
  · rw [if_pos e8]
    exact nr_math_bits_deBruijn64tab
  rw [if_neg e8]
  exact NR.any
theorem ctx : Ctx Tryd.prog glob := ⟨glob_nr, mixed⟩
@[go_sem] theorem tsz2 : tsz Tryd.prog 2 = some 1 := by kernel_rfl
@[go_sem] theorem tby2 : tby Tryd.prog 2 = some 8 := by kernel_rfl
@[go_sem] theorem tzero2 : tzero Tryd.prog 2 = some (.int .i64 0) := by kernel_rfl
@[go_sem] theorem tsz3 : tsz Tryd.prog 3 = some 1 := by kernel_rfl
@[go_sem] theorem tby3 : tby Tryd.prog 3 = some 8 := by kernel_rfl
@[go_sem] theorem tzero3 : tzero Tryd.prog 3 = some (.int .i64 0) := by kernel_rfl
@[go_sem] theorem tsz4 : tsz Tryd.prog 4 = some 1 := by kernel_rfl
@[go_sem] theorem tby4 : tby Tryd.prog 4 = some 1 := by kernel_rfl
@[go_sem] theorem tzero4 : tzero Tryd.prog 4 = some (.bool false) := by kernel_rfl
@[go_sem] theorem tsz5 : tsz Tryd.prog 5 = some 1 := by kernel_rfl
@[go_sem] theorem tby5 : tby Tryd.prog 5 = some 1 := by kernel_rfl
@[go_sem] theorem tzero5 : tzero Tryd.prog 5 = some (.int .u8 0) := by kernel_rfl
@[go_sem] theorem tsz6 : tsz Tryd.prog 6 = some 1 := by kernel_rfl
@[go_sem] theorem tby6 : tby Tryd.prog 6 = some 1 := by kernel_rfl
@[go_sem] theorem tzero6 : tzero Tryd.prog 6 = some (.int .u8 0) := by kernel_rfl
@[go_sem] theorem tsz7 : tsz Tryd.prog 7 = some 4 := by kernel_rfl
@[go_sem] theorem tby7 : tby Tryd.prog 7 = some 24 := by kernel_rfl
@[go_sem] theorem tzero7 : tzero Tryd.prog 7 = some (.agg #[(.int .i64 0), (.int .i64 0), (.bool false), (.int .u8 0)]) := by kernel_rfl
@[go_sem] theorem tsz8 : tsz Tryd.prog 8 = some 4 := by kernel_rfl
@[go_sem] theorem tby8 : tby Tryd.prog 8 = some 24 := by kernel_rfl
@[go_sem] theorem tzero8 : tzero Tryd.prog 8 = some (.agg #[(.int .i64 0), (.int .i64 0), (.bool false), (.int .u8 0)]) := by kernel_rfl
@[go_sem] theorem tsz9 : tsz Tryd.prog 9 = some 1 := by kernel_rfl
@[go_sem] theorem tby9 : tby Tryd.prog 9 = some 16 := by kernel_rfl
@[go_sem] theorem tzero9 : tzero Tryd.prog 9 = some (.string ⟨#[]⟩) := by kernel_rfl
@[go_sem] theorem row9 : Row Tryd.prog 9 := .inr (by kernel_rfl)
@[go_sem] theorem tsz10 : tsz Tryd.prog 10 = some 1 := by kernel_rfl
@[go_sem] theorem tby10 : tby Tryd.prog 10 = some 16 := by kernel_rfl
@[go_sem] theorem tzero10 : tzero Tryd.prog 10 = some (.string ⟨#[]⟩) := by kernel_rfl
@[go_sem] theorem row10 : Row Tryd.prog 10 := .inr (by kernel_rfl)
@[go_sem] theorem tsz11 : tsz Tryd.prog 11 = some 1 := by kernel_rfl
@[go_sem] theorem tby11 : tby Tryd.prog 11 = some 16 := by kernel_rfl
@[go_sem] theorem tzero11 : tzero Tryd.prog 11 = some (.string ⟨#[]⟩) := by kernel_rfl
@[go_sem] theorem row11 : Row Tryd.prog 11 := .inr (by kernel_rfl)
@[go_sem] theorem tsz12 : tsz Tryd.prog 12 = some 1 := by kernel_rfl
@[go_sem] theorem tby12 : tby Tryd.prog 12 = some 8 := by kernel_rfl
@[go_sem] theorem tzero12 : tzero Tryd.prog 12 = some (.int .u64 0) := by kernel_rfl
@[go_sem] theorem tsz13 : tsz Tryd.prog 13 = some 2 := by kernel_rfl
@[go_sem] theorem tby13 : tby Tryd.prog 13 = some 24 := by kernel_rfl
@[go_sem] theorem tzero13 : tzero Tryd.prog 13 = some (.agg #[(.string ⟨#[]⟩), (.int .u64 0)]) := by kernel_rfl
@[go_sem] theorem tsz14 : tsz Tryd.prog 14 = some 2 := by kernel_rfl
@[go_sem] theorem tby14 : tby Tryd.prog 14 = some 24 := by kernel_rfl
@[go_sem] theorem tzero14 : tzero Tryd.prog 14 = some (.agg #[(.string ⟨#[]⟩), (.int .u64 0)]) := by kernel_rfl
@[go_sem] theorem tsz15 : tsz Tryd.prog 15 = some 1 := by kernel_rfl
@[go_sem] theorem tby15 : tby Tryd.prog 15 = some 8 := by kernel_rfl
@[go_sem] theorem tzero15 : tzero Tryd.prog 15 = some (.pointer none) := by kernel_rfl
@[go_sem] theorem tsz16 : tsz Tryd.prog 16 = some 1 := by kernel_rfl
@[go_sem] theorem tby16 : tby Tryd.prog 16 = some 8 := by kernel_rfl
@[go_sem] theorem tzero16 : tzero Tryd.prog 16 = some (.pointer none) := by kernel_rfl
@[go_sem] theorem tsz17 : tsz Tryd.prog 17 = some 1 := by kernel_rfl
@[go_sem] theorem tby17 : tby Tryd.prog 17 = some 8 := by kernel_rfl
@[go_sem] theorem tzero17 : tzero Tryd.prog 17 = some (.pointer none) := by kernel_rfl
@[go_sem] theorem tsz18 : tsz Tryd.prog 18 = some 1 := by kernel_rfl
@[go_sem] theorem tby18 : tby Tryd.prog 18 = some 8 := by kernel_rfl
@[go_sem] theorem tzero18 : tzero Tryd.prog 18 = some (.agg #[(.pointer none)]) := by kernel_rfl
@[go_sem] theorem tsz19 : tsz Tryd.prog 19 = some 1 := by kernel_rfl
@[go_sem] theorem tby19 : tby Tryd.prog 19 = some 8 := by kernel_rfl
@[go_sem] theorem tzero19 : tzero Tryd.prog 19 = some (.agg #[(.pointer none)]) := by kernel_rfl
@[go_sem] theorem tsz21 : tsz Tryd.prog 21 = some 1 := by kernel_rfl
@[go_sem] theorem tby21 : tby Tryd.prog 21 = some 4 := by kernel_rfl
@[go_sem] theorem tzero21 : tzero Tryd.prog 21 = some (.int .i32 0) := by kernel_rfl
@[go_sem] theorem tsz22 : tsz Tryd.prog 22 = some 1 := by kernel_rfl
@[go_sem] theorem tby22 : tby Tryd.prog 22 = some 8 := by kernel_rfl
@[go_sem] theorem tzero22 : tzero Tryd.prog 22 = some (.int .i64 0) := by kernel_rfl
@[go_sem] theorem tsz23 : tsz Tryd.prog 23 = some 1 := by kernel_rfl
@[go_sem] theorem tby23 : tby Tryd.prog 23 = some 24 := by kernel_rfl
@[go_sem] theorem tzero23 : tzero Tryd.prog 23 = some (.slice none 0 0) := by kernel_rfl
@[go_sem] theorem row23 : Row Tryd.prog 23 := .inl ⟨9, by kernel_rfl⟩
@[go_sem] theorem tsz24 : tsz Tryd.prog 24 = some 1 := by kernel_rfl
@[go_sem] theorem tby24 : tby Tryd.prog 24 = some 24 := by kernel_rfl
@[go_sem] theorem tzero24 : tzero Tryd.prog 24 = some (.slice none 0 0) := by kernel_rfl
@[go_sem] theorem row24 : Row Tryd.prog 24 := .inl ⟨26, by kernel_rfl⟩
@[go_sem] theorem tsz25 : tsz Tryd.prog 25 = some 4 := by kernel_rfl
@[go_sem] theorem tby25 : tby Tryd.prog 25 = some 72 := by kernel_rfl
@[go_sem] theorem tzero25 : tzero Tryd.prog 25 = some (.agg #[(.int .i64 0), (.string ⟨#[]⟩), (.slice none 0 0), (.slice none 0 0)]) := by kernel_rfl
@[go_sem] theorem tsz26 : tsz Tryd.prog 26 = some 4 := by kernel_rfl
@[go_sem] theorem tby26 : tby Tryd.prog 26 = some 72 := by kernel_rfl
@[go_sem] theorem tzero26 : tzero Tryd.prog 26 = some (.agg #[(.int .i64 0), (.string ⟨#[]⟩), (.slice none 0 0), (.slice none 0 0)]) := by kernel_rfl
@[go_sem] theorem tsz27 : tsz Tryd.prog 27 = some 1 := by kernel_rfl
@[go_sem] theorem tby27 : tby Tryd.prog 27 = some 24 := by kernel_rfl
@[go_sem] theorem tzero27 : tzero Tryd.prog 27 = some (.slice none 0 0) := by kernel_rfl
@[go_sem] theorem row27 : Row Tryd.prog 27 := .inl ⟨40, by kernel_rfl⟩
@[go_sem] theorem tsz28 : tsz Tryd.prog 28 = some 2 := by kernel_rfl
@[go_sem] theorem tby28 : tby Tryd.prog 28 = some 48 := by kernel_rfl
@[go_sem] theorem tzero28 : tzero Tryd.prog 28 = some (.agg #[(.slice none 0 0), (.slice none 0 0)]) := by kernel_rfl
@[go_sem] theorem tsz31 : tsz Tryd.prog 31 = some 1 := by kernel_rfl
@[go_sem] theorem tby31 : tby Tryd.prog 31 = some 8 := by kernel_rfl
@[go_sem] theorem tzero31 : tzero Tryd.prog 31 = some (.int .i64 0) := by kernel_rfl
@[go_sem] theorem tsz38 : tsz Tryd.prog 38 = some 1 := by kernel_rfl
@[go_sem] theorem tby38 : tby Tryd.prog 38 = some 8 := by kernel_rfl
@[go_sem] theorem tzero38 : tzero Tryd.prog 38 = some (.int .i64 0) := by kernel_rfl
@[go_sem] theorem tsz39 : tsz Tryd.prog 39 = some 3 := by kernel_rfl
@[go_sem] theorem tby39 : tby Tryd.prog 39 = some 40 := by kernel_rfl
@[go_sem] theorem tzero39 : tzero Tryd.prog 39 = some (.agg #[(.int .i64 0), (.string ⟨#[]⟩), (.string ⟨#[]⟩)]) := by kernel_rfl
@[go_sem] theorem tsz40 : tsz Tryd.prog 40 = some 3 := by kernel_rfl
@[go_sem] theorem tby40 : tby Tryd.prog 40 = some 40 := by kernel_rfl
@[go_sem] theorem tzero40 : tzero Tryd.prog 40 = some (.agg #[(.int .i64 0), (.string ⟨#[]⟩), (.string ⟨#[]⟩)]) := by kernel_rfl
@[go_sem] theorem tsz42 : tsz Tryd.prog 42 = some 5 := by kernel_rfl
@[go_sem] theorem tby42 : tby Tryd.prog 42 = some 72 := by kernel_rfl
@[go_sem] theorem tzero42 : tzero Tryd.prog 42 = some (.agg #[(.string ⟨#[]⟩), (.string ⟨#[]⟩), (.int .i64 0), (.int .i64 0), (.slice none 0 0)]) := by kernel_rfl
@[go_sem] theorem tsz43 : tsz Tryd.prog 43 = some 5 := by kernel_rfl
@[go_sem] theorem tby43 : tby Tryd.prog 43 = some 72 := by kernel_rfl
@[go_sem] theorem tzero43 : tzero Tryd.prog 43 = some (.agg #[(.string ⟨#[]⟩), (.string ⟨#[]⟩), (.int .i64 0), (.int .i64 0), (.slice none 0 0)]) := by kernel_rfl
@[go_sem] theorem tsz46 : tsz Tryd.prog 46 = some 2 := by kernel_rfl
@[go_sem] theorem tby46 : tby Tryd.prog 46 = some 16 := by kernel_rfl
@[go_sem] theorem tzero46 : tzero Tryd.prog 46 = some (zArr .i64 2) := by kernel_rfl
@[go_sem] theorem tsz51 : tsz Tryd.prog 51 = some 5 := by kernel_rfl
@[go_sem] theorem tby51 : tby Tryd.prog 51 = some 80 := by kernel_rfl
@[go_sem] theorem tzero51 : tzero Tryd.prog 51 = some (.agg #[(.int .i64 0), (.string ⟨#[]⟩), (.slice none 0 0), (.slice none 0 0), (.int .i64 0)]) := by kernel_rfl
@[go_sem] theorem tsz52 : tsz Tryd.prog 52 = some 5 := by kernel_rfl
@[go_sem] theorem tby52 : tby Tryd.prog 52 = some 80 := by kernel_rfl
@[go_sem] theorem tzero52 : tzero Tryd.prog 52 = some (.agg #[(.int .i64 0), (.string ⟨#[]⟩), (.slice none 0 0), (.slice none 0 0), (.int .i64 0)]) := by kernel_rfl
@[go_sem] theorem tsz55 : tsz Tryd.prog 55 = some 3 := by kernel_rfl
@[go_sem] theorem tby55 : tby Tryd.prog 55 = some 24 := by kernel_rfl
@[go_sem] theorem tzero55 : tzero Tryd.prog 55 = some (zArr .i64 3) := by kernel_rfl
@[go_sem] theorem tsz56 : tsz Tryd.prog 56 = some 3 := by kernel_rfl
@[go_sem] theorem tby56 : tby Tryd.prog 56 = some 24 := by kernel_rfl
@[go_sem] theorem tzero56 : tzero Tryd.prog 56 = some (zArr .i64 3) := by kernel_rfl
@[go_sem] theorem tsz57 : tsz Tryd.prog 57 = some 6 := by kernel_rfl
@[go_sem] theorem tby57 : tby Tryd.prog 57 = some 48 := by kernel_rfl
@[go_sem] theorem tzero57 : tzero Tryd.prog 57 = some (zArr .i64 6) := by kernel_rfl
@[go_sem] theorem tsz58 : tsz Tryd.prog 58 = some 6 := by kernel_rfl
@[go_sem] theorem tby58 : tby Tryd.prog 58 = some 48 := by kernel_rfl
@[go_sem] theorem tzero58 : tzero Tryd.prog 58 = some (zArr .i64 6) := by kernel_rfl
@[go_sem] theorem tsz60 : tsz Tryd.prog 60 = some 1 := by kernel_rfl
@[go_sem] theorem tby60 : tby Tryd.prog 60 = some 8 := by kernel_rfl
@[go_sem] theorem tzero60 : tzero Tryd.prog 60 = some (.pointer none) := by kernel_rfl
@[go_sem] theorem tsz61 : tsz Tryd.prog 61 = some 1 := by kernel_rfl
@[go_sem] theorem tby61 : tby Tryd.prog 61 = some 24 := by kernel_rfl
@[go_sem] theorem tzero61 : tzero Tryd.prog 61 = some (.slice none 0 0) := by kernel_rfl
@[go_sem] theorem row61 : Row Tryd.prog 61 := .inl ⟨5, by kernel_rfl⟩
@[go_sem] theorem tsz62 : tsz Tryd.prog 62 = some 2 := by kernel_rfl
@[go_sem] theorem tby62 : tby Tryd.prog 62 = some 32 := by kernel_rfl
@[go_sem] theorem tzero62 : tzero Tryd.prog 62 = some (.agg #[(.pointer none), (.slice none 0 0)]) := by kernel_rfl
@[go_sem] theorem tsz63 : tsz Tryd.prog 63 = some 2 := by kernel_rfl
@[go_sem] theorem tby63 : tby Tryd.prog 63 = some 32 := by kernel_rfl
@[go_sem] theorem tzero63 : tzero Tryd.prog 63 = some (.agg #[(.pointer none), (.slice none 0 0)]) := by kernel_rfl
@[go_sem] theorem tsz69 : tsz Tryd.prog 69 = some 5 := by kernel_rfl
@[go_sem] theorem tby69 : tby Tryd.prog 69 = some 40 := by kernel_rfl
@[go_sem] theorem tzero69 : tzero Tryd.prog 69 = some (zArr .i64 5) := by kernel_rfl
@[go_sem] theorem tsz86 : tsz Tryd.prog 86 = some 1 := by kernel_rfl
@[go_sem] theorem tby86 : tby Tryd.prog 86 = some 8 := by kernel_rfl
@[go_sem] theorem tzero86 : tzero Tryd.prog 86 = some (.pointer none) := by kernel_rfl
@[go_sem] theorem tsz88 : tsz Tryd.prog 88 = some 1 := by kernel_rfl
@[go_sem] theorem tby88 : tby Tryd.prog 88 = some 24 := by kernel_rfl
@[go_sem] theorem tzero88 : tzero Tryd.prog 88 = some (.slice none 0 0) := by kernel_rfl
@[go_sem] theorem row88 : Row Tryd.prog 88 := .inl ⟨23, by kernel_rfl⟩
@[go_sem] theorem tsz94 : tsz Tryd.prog 94 = some 12 := by kernel_rfl
@[go_sem] theorem tby94 : tby Tryd.prog 94 = some 96 := by kernel_rfl
@[go_sem] theorem tzero94 : tzero Tryd.prog 94 = some (zArr .i64 12) := by kernel_rfl
@[go_sem] theorem tsz97 : tsz Tryd.prog 97 = some 1 := by kernel_rfl
@[go_sem] theorem tby97 : tby Tryd.prog 97 = some 8 := by kernel_rfl
@[go_sem] theorem tzero97 : tzero Tryd.prog 97 = some (.int .u64 0) := by kernel_rfl
@[go_sem] theorem tsz108 : tsz Tryd.prog 108 = some 1 := by kernel_rfl
@[go_sem] theorem tby108 : tby Tryd.prog 108 = some 4 := by kernel_rfl
@[go_sem] theorem tzero108 : tzero Tryd.prog 108 = some (.int .u32 0) := by kernel_rfl
@[go_sem] theorem tsz111 : tsz Tryd.prog 111 = some 1 := by kernel_rfl
@[go_sem] theorem tby111 : tby Tryd.prog 111 = some 8 := by kernel_rfl
@[go_sem] theorem tzero111 : tzero Tryd.prog 111 = some (.int .u64 0) := by kernel_rfl
@[go_sem] theorem tsz115 : tsz Tryd.prog 115 = some 256 := by kernel_rfl
@[go_sem] theorem tby115 : tby Tryd.prog 115 = some 256 := by kernel_rfl
@[go_sem] theorem tzero115 : tzero Tryd.prog 115 = some (zArr .u8 256) := by kernel_rfl
@[go_sem] theorem tsz116 : tsz Tryd.prog 116 = some 2 := by kernel_rfl
@[go_sem] theorem tby116 : tby Tryd.prog 116 = some 2 := by kernel_rfl
@[go_sem] theorem tzero116 : tzero Tryd.prog 116 = some (zArr .u8 2) := by kernel_rfl
@[go_sem] theorem tsz117 : tsz Tryd.prog 117 = some 2 := by kernel_rfl
@[go_sem] theorem tby117 : tby Tryd.prog 117 = some 2 := by kernel_rfl
@[go_sem] theorem tzero117 : tzero Tryd.prog 117 = some (zArr .u8 2) := by kernel_rfl
@[go_sem] theorem tsz118 : tsz Tryd.prog 118 = some 32 := by kernel_rfl
@[go_sem] theorem tby118 : tby Tryd.prog 118 = some 32 := by kernel_rfl
@[go_sem] theorem tzero118 : tzero Tryd.prog 118 = some (zArr .u8 32) := by kernel_rfl
@[go_sem] theorem tsz120 : tsz Tryd.prog 120 = some 24 := by kernel_rfl
@[go_sem] theorem tby120 : tby Tryd.prog 120 = some 24 := by kernel_rfl
@[go_sem] theorem tzero120 : tzero Tryd.prog 120 = some (zArr .u8 24) := by kernel_rfl
@[go_sem] theorem tsz128 : tsz Tryd.prog 128 = some 20 := by kernel_rfl
@[go_sem] theorem tby128 : tby Tryd.prog 128 = some 160 := by kernel_rfl
@[go_sem] theorem tzero128 : tzero Tryd.prog 128 = some (zArr .u64 20) := by kernel_rfl
@[go_sem] theorem tsz129 : tsz Tryd.prog 129 = some 65 := by kernel_rfl
@[go_sem] theorem tby129 : tby Tryd.prog 129 = some 65 := by kernel_rfl
@[go_sem] theorem tzero129 : tzero Tryd.prog 129 = some (zArr .u8 65) := by kernel_rfl
@[go_sem] theorem tsz131 : tsz Tryd.prog 131 = some 1 := by kernel_rfl
@[go_sem] theorem tby131 : tby Tryd.prog 131 = some 8 := by kernel_rfl
@[go_sem] theorem tzero131 : tzero Tryd.prog 131 = some (.int .i64 0) := by kernel_rfl
@[go_sem] theorem tsz134 : tsz Tryd.prog 134 = some 1 := by kernel_rfl
@[go_sem] theorem tby134 : tby Tryd.prog 134 = some 8 := by kernel_rfl
@[go_sem] theorem tzero134 : tzero Tryd.prog 134 = some (.pointer none) := by kernel_rfl
@[go_sem] theorem tsz141 : tsz Tryd.prog 141 = some 3 := by kernel_rfl
@[go_sem] theorem tby141 : tby Tryd.prog 141 = some 48 := by kernel_rfl
@[go_sem] theorem tzero141 : tzero Tryd.prog 141 = some (.agg #[(.string ⟨#[]⟩), (.string ⟨#[]⟩), .nilIface]) := by kernel_rfl
@[go_sem] theorem tsz142 : tsz Tryd.prog 142 = some 3 := by kernel_rfl
@[go_sem] theorem tby142 : tby Tryd.prog 142 = some 48 := by kernel_rfl
@[go_sem] theorem tzero142 : tzero Tryd.prog 142 = some (.agg #[(.string ⟨#[]⟩), (.string ⟨#[]⟩), .nilIface]) := by kernel_rfl
@[go_sem] theorem tsz144 : tsz Tryd.prog 144 = some 32 := by kernel_rfl
@[go_sem] theorem tby144 : tby Tryd.prog 144 = some 32 := by kernel_rfl
@[go_sem] theorem tzero144 : tzero Tryd.prog 144 = some (zArr .u8 32) := by kernel_rfl
@[go_sem] theorem tsz145 : tsz Tryd.prog 145 = some 64 := by kernel_rfl
@[go_sem] theorem tby145 : tby Tryd.prog 145 = some 64 := by kernel_rfl
@[go_sem] theorem tzero145 : tzero Tryd.prog 145 = some (zArr .u8 64) := by kernel_rfl
@[go_sem] theorem tsz147 : tsz Tryd.prog 147 = some 1 := by kernel_rfl
@[go_sem] theorem tby147 : tby Tryd.prog 147 = some 8 := by kernel_rfl
@[go_sem] theorem tzero147 : tzero Tryd.prog 147 = some (.pointer none) := by kernel_rfl
@[go_sem] theorem tsz148 : tsz Tryd.prog 148 = some 1 := by kernel_rfl
@[go_sem] theorem tby148 : tby Tryd.prog 148 = some 16 := by kernel_rfl
@[go_sem] theorem tzero148 : tzero Tryd.prog 148 = some (.agg #[(.string ⟨#[]⟩)]) := by kernel_rfl
@[go_sem] theorem tsz149 : tsz Tryd.prog 149 = some 1 := by kernel_rfl
@[go_sem] theorem tby149 : tby Tryd.prog 149 = some 16 := by kernel_rfl
@[go_sem] theorem tzero149 : tzero Tryd.prog 149 = some (.agg #[(.string ⟨#[]⟩)]) := by kernel_rfl
@[go_sem] theorem tsz150 : tsz Tryd.prog 150 = some 4 := by kernel_rfl
@[go_sem] theorem tby150 : tby Tryd.prog 150 = some 40 := by kernel_rfl
@[go_sem] theorem tzero150 : tzero Tryd.prog 150 = some (.agg #[(.pointer none), (.pointer none), (.pointer none), (.string ⟨#[]⟩)]) := by kernel_rfl
@[go_sem] theorem tsz151 : tsz Tryd.prog 151 = some 4 := by kernel_rfl
@[go_sem] theorem tby151 : tby Tryd.prog 151 = some 40 := by kernel_rfl
@[go_sem] theorem tzero151 : tzero Tryd.prog 151 = some (.agg #[(.pointer none), (.pointer none), (.pointer none), (.string ⟨#[]⟩)]) := by kernel_rfl
@[go_sem] theorem tsz152 : tsz Tryd.prog 152 = some 0 := by kernel_rfl
@[go_sem] theorem tby152 : tby Tryd.prog 152 = some 0 := by kernel_rfl
@[go_sem] theorem tzero152 : tzero Tryd.prog 152 = some (.agg #[]) := by kernel_rfl
@[go_sem] theorem tsz153 : tsz Tryd.prog 153 = some 0 := by kernel_rfl
@[go_sem] theorem tby153 : tby Tryd.prog 153 = some 0 := by kernel_rfl
@[go_sem] theorem tzero153 : tzero Tryd.prog 153 = some (.agg #[]) := by kernel_rfl
@[go_sem] theorem tsz154 : tsz Tryd.prog 154 = some 0 := by kernel_rfl
@[go_sem] theorem tby154 : tby Tryd.prog 154 = some 0 := by kernel_rfl
@[go_sem] theorem tzero154 : tzero Tryd.prog 154 = some (.agg #[]) := by kernel_rfl
@[go_sem] theorem tsz155 : tsz Tryd.prog 155 = some 1 := by kernel_rfl
@[go_sem] theorem tby155 : tby Tryd.prog 155 = some 1 := by kernel_rfl
@[go_sem] theorem tzero155 : tzero Tryd.prog 155 = some (.int .u8 0) := by kernel_rfl
@[go_sem] theorem tsz156 : tsz Tryd.prog 156 = some 1 := by kernel_rfl
@[go_sem] theorem tby156 : tby Tryd.prog 156 = some 1 := by kernel_rfl
@[go_sem] theorem tzero156 : tzero Tryd.prog 156 = some (.int .u8 0) := by kernel_rfl
@[go_sem] theorem tsz158 : tsz Tryd.prog 158 = some 1 := by kernel_rfl
@[go_sem] theorem tby158 : tby Tryd.prog 158 = some 4 := by kernel_rfl
@[go_sem] theorem tzero158 : tzero Tryd.prog 158 = some (.int .i32 0) := by kernel_rfl
@[go_sem] theorem tsz159 : tsz Tryd.prog 159 = some 1 := by kernel_rfl
@[go_sem] theorem tby159 : tby Tryd.prog 159 = some 4 := by kernel_rfl
@[go_sem] theorem tzero159 : tzero Tryd.prog 159 = some (.int .i32 0) := by kernel_rfl
@[go_sem] theorem tsz160 : tsz Tryd.prog 160 = some 11 := by kernel_rfl
@[go_sem] theorem tby160 : tby Tryd.prog 160 = some 48 := by kernel_rfl
@[go_sem] theorem tzero160 : tzero Tryd.prog 160 = some (.agg #[(.int .u64 0), (.int .u64 0), (.int .u32 0), (.int .u8 0), (.int .u8 0), (.int .u8 0), (.int .u8 0), .nilFunc, (.pointer none), (.int .i32 0), (.int .i32 0)]) := by kernel_rfl
@[go_sem] theorem tsz161 : tsz Tryd.prog 161 = some 11 := by kernel_rfl
@[go_sem] theorem tby161 : tby Tryd.prog 161 = some 48 := by kernel_rfl
@[go_sem] theorem tzero161 : tzero Tryd.prog 161 = some (.agg #[(.int .u64 0), (.int .u64 0), (.int .u32 0), (.int .u8 0), (.int .u8 0), (.int .u8 0), (.int .u8 0), .nilFunc, (.pointer none), (.int .i32 0), (.int .i32 0)]) := by kernel_rfl
@[go_sem] theorem und0 : Tryd.prog.underlying 0 = some (Go.TypeDesc.tuple #[]) := Tryd.underlying0
@[go_sem] theorem und1 : Tryd.prog.underlying 1 = some (Go.TypeDesc.func #[] #[] false) := Tryd.underlying1
@[go_sem] theorem und2 : Tryd.prog.underlying 2 = some (Go.TypeDesc.int Go.IntKind.i64) := Tryd.underlying2
@[go_sem] theorem und3 : Tryd.prog.underlying 3 = some (Go.TypeDesc.int Go.IntKind.i64) := Tryd.underlying3
@[go_sem] theorem und4 : Tryd.prog.underlying 4 = some Go.TypeDesc.bool := Tryd.underlying4
@[go_sem] theorem und5 : Tryd.prog.underlying 5 = some (Go.TypeDesc.int Go.IntKind.u8) := Tryd.underlying5
@[go_sem] theorem und6 : Tryd.prog.underlying 6 = some (Go.TypeDesc.int Go.IntKind.u8) := Tryd.underlying6
@[go_sem] theorem und7 : Tryd.prog.underlying 7 = some (Go.TypeDesc.struct #[{ name := "x", type := 2, offset := 0, embedded := false, tag := "", pkgPath := "runtime", byteOffset := 0 }, { name := "y", type := 3, offset := 1, embedded := false, tag := "", pkgPath := "runtime", byteOffset := 8 }, { name := "signed", type := 4, offset := 2, embedded := false, tag := "", pkgPath := "runtime", byteOffset := 16 }, { name := "code", type := 6, offset := 3, embedded := false, tag := "", pkgPath := "runtime", byteOffset := 17 }]) := Tryd.underlying7
@[go_sem] theorem und8 : Tryd.prog.underlying 8 = some (Go.TypeDesc.struct #[{ name := "x", type := 2, offset := 0, embedded := false, tag := "", pkgPath := "runtime", byteOffset := 0 }, { name := "y", type := 3, offset := 1, embedded := false, tag := "", pkgPath := "runtime", byteOffset := 8 }, { name := "signed", type := 4, offset := 2, embedded := false, tag := "", pkgPath := "runtime", byteOffset := 16 }, { name := "code", type := 6, offset := 3, embedded := false, tag := "", pkgPath := "runtime", byteOffset := 17 }]) := Tryd.underlying8
@[go_sem] theorem und9 : Tryd.prog.underlying 9 = some Go.TypeDesc.string := Tryd.underlying9
@[go_sem] theorem und10 : Tryd.prog.underlying 10 = some Go.TypeDesc.string := Tryd.underlying10
@[go_sem] theorem und11 : Tryd.prog.underlying 11 = some Go.TypeDesc.string := Tryd.underlying11
@[go_sem] theorem und12 : Tryd.prog.underlying 12 = some (Go.TypeDesc.int Go.IntKind.u64) := Tryd.underlying12
@[go_sem] theorem und13 : Tryd.prog.underlying 13 = some (Go.TypeDesc.struct #[{ name := "msg", type := 9, offset := 0, embedded := false, tag := "", pkgPath := "runtime", byteOffset := 0 }, { name := "addr", type := 12, offset := 1, embedded := false, tag := "", pkgPath := "runtime", byteOffset := 16 }]) := Tryd.underlying13
@[go_sem] theorem und14 : Tryd.prog.underlying 14 = some (Go.TypeDesc.struct #[{ name := "msg", type := 9, offset := 0, embedded := false, tag := "", pkgPath := "runtime", byteOffset := 0 }, { name := "addr", type := 12, offset := 1, embedded := false, tag := "", pkgPath := "runtime", byteOffset := 16 }]) := Tryd.underlying14
@[go_sem] theorem und15 : Tryd.prog.underlying 15 = some (Go.TypeDesc.pointer 151) := Tryd.underlying15
@[go_sem] theorem und16 : Tryd.prog.underlying 16 = some (Go.TypeDesc.pointer 154) := Tryd.underlying16
@[go_sem] theorem und17 : Tryd.prog.underlying 17 = some (Go.TypeDesc.pointer 161) := Tryd.underlying17
@[go_sem] theorem und18 : Tryd.prog.underlying 18 = some (Go.TypeDesc.struct #[{ name := "typ", type := 17, offset := 0, embedded := false, tag := "", pkgPath := "internal/runtime/maps", byteOffset := 0 }]) := Tryd.underlying18
@[go_sem] theorem und19 : Tryd.prog.underlying 19 = some (Go.TypeDesc.struct #[{ name := "typ", type := 17, offset := 0, embedded := false, tag := "", pkgPath := "internal/runtime/maps", byteOffset := 0 }]) := Tryd.underlying19
@[go_sem] theorem und20 : Tryd.prog.underlying 20 = some (Go.TypeDesc.interface #[]) := Tryd.underlying20
@[go_sem] theorem und21 : Tryd.prog.underlying 21 = some (Go.TypeDesc.int Go.IntKind.i32) := Tryd.underlying21
@[go_sem] theorem und22 : Tryd.prog.underlying 22 = some (Go.TypeDesc.int Go.IntKind.i64) := Tryd.underlying22
@[go_sem] theorem und23 : Tryd.prog.underlying 23 = some (Go.TypeDesc.slice 9) := Tryd.underlying23
@[go_sem] theorem und24 : Tryd.prog.underlying 24 = some (Go.TypeDesc.slice 26) := Tryd.underlying24
@[go_sem] theorem und25 : Tryd.prog.underlying 25 = some (Go.TypeDesc.struct #[{ name := "Kind", type := 22, offset := 0, embedded := false, tag := "", pkgPath := "", byteOffset := 0 }, { name := "Text", type := 9, offset := 1, embedded := false, tag := "", pkgPath := "", byteOffset := 8 }, { name := "Names", type := 23, offset := 2, embedded := false, tag := "", pkgPath := "", byteOffset := 24 }, { name := "Values", type := 24, offset := 3, embedded := false, tag := "", pkgPath := "", byteOffset := 48 }]) := Tryd.underlying25
@[go_sem] theorem und26 : Tryd.prog.underlying 26 = some (Go.TypeDesc.struct #[{ name := "Kind", type := 22, offset := 0, embedded := false, tag := "", pkgPath := "", byteOffset := 0 }, { name := "Text", type := 9, offset := 1, embedded := false, tag := "", pkgPath := "", byteOffset := 8 }, { name := "Names", type := 23, offset := 2, embedded := false, tag := "", pkgPath := "", byteOffset := 24 }, { name := "Values", type := 24, offset := 3, embedded := false, tag := "", pkgPath := "", byteOffset := 48 }]) := Tryd.underlying26
@[go_sem] theorem und27 : Tryd.prog.underlying 27 = some (Go.TypeDesc.slice 40) := Tryd.underlying27
@[go_sem] theorem und28 : Tryd.prog.underlying 28 = some (Go.TypeDesc.array 2 27) := Tryd.underlying28
@[go_sem] theorem und29 : Tryd.prog.underlying 29 = some (Go.TypeDesc.func #[] #[4] false) := Tryd.underlying29
@[go_sem] theorem und30 : Tryd.prog.underlying 30 = some (Go.TypeDesc.func #[26] #[4] false) := Tryd.underlying30
@[go_sem] theorem und31 : Tryd.prog.underlying 31 = some (Go.TypeDesc.int Go.IntKind.i64) := Tryd.underlying31
@[go_sem] theorem und32 : Tryd.prog.underlying 32 = some (Go.TypeDesc.func #[26, 3, 27] #[31] true) := Tryd.underlying32
@[go_sem] theorem und33 : Tryd.prog.underlying 33 = some (Go.TypeDesc.func #[26, 3, 28] #[4] false) := Tryd.underlying33
@[go_sem] theorem und34 : Tryd.prog.underlying 34 = some (Go.TypeDesc.tuple #[9, 31]) := Tryd.underlying34
@[go_sem] theorem und35 : Tryd.prog.underlying 35 = some (Go.TypeDesc.func #[3] #[9, 31] false) := Tryd.underlying35
@[go_sem] theorem und36 : Tryd.prog.underlying 36 = some (Go.TypeDesc.func #[23] #[26] true) := Tryd.underlying36
@[go_sem] theorem und37 : Tryd.prog.underlying 37 = some (Go.TypeDesc.func #[26] #[31] false) := Tryd.underlying37
@[go_sem] theorem und38 : Tryd.prog.underlying 38 = some (Go.TypeDesc.int Go.IntKind.i64) := Tryd.underlying38
@[go_sem] theorem und39 : Tryd.prog.underlying 39 = some (Go.TypeDesc.struct #[{ name := "Ask", type := 38, offset := 0, embedded := false, tag := "", pkgPath := "", byteOffset := 0 }, { name := "Name", type := 9, offset := 1, embedded := false, tag := "", pkgPath := "", byteOffset := 8 }, { name := "Want", type := 9, offset := 2, embedded := false, tag := "", pkgPath := "", byteOffset := 24 }]) := Tryd.underlying39
@[go_sem] theorem und40 : Tryd.prog.underlying 40 = some (Go.TypeDesc.struct #[{ name := "Ask", type := 38, offset := 0, embedded := false, tag := "", pkgPath := "", byteOffset := 0 }, { name := "Name", type := 9, offset := 1, embedded := false, tag := "", pkgPath := "", byteOffset := 8 }, { name := "Want", type := 9, offset := 2, embedded := false, tag := "", pkgPath := "", byteOffset := 24 }]) := Tryd.underlying40
@[go_sem] theorem und41 : Tryd.prog.underlying 41 = some (Go.TypeDesc.func #[3, 3, 9] #[4] false) := Tryd.underlying41
@[go_sem] theorem und42 : Tryd.prog.underlying 42 = some (Go.TypeDesc.struct #[{ name := "Issuer", type := 9, offset := 0, embedded := false, tag := "", pkgPath := "", byteOffset := 0 }, { name := "Audience", type := 9, offset := 1, embedded := false, tag := "", pkgPath := "", byteOffset := 16 }, { name := "From", type := 3, offset := 2, embedded := false, tag := "", pkgPath := "", byteOffset := 32 }, { name := "To", type := 3, offset := 3, embedded := false, tag := "", pkgPath := "", byteOffset := 40 }, { name := "More", type := 23, offset := 4, embedded := false, tag := "", pkgPath := "", byteOffset := 48 }]) := Tryd.underlying42
@[go_sem] theorem und43 : Tryd.prog.underlying 43 = some (Go.TypeDesc.struct #[{ name := "Issuer", type := 9, offset := 0, embedded := false, tag := "", pkgPath := "", byteOffset := 0 }, { name := "Audience", type := 9, offset := 1, embedded := false, tag := "", pkgPath := "", byteOffset := 16 }, { name := "From", type := 3, offset := 2, embedded := false, tag := "", pkgPath := "", byteOffset := 32 }, { name := "To", type := 3, offset := 3, embedded := false, tag := "", pkgPath := "", byteOffset := 40 }, { name := "More", type := 23, offset := 4, embedded := false, tag := "", pkgPath := "", byteOffset := 48 }]) := Tryd.underlying43
@[go_sem] theorem und44 : Tryd.prog.underlying 44 = some (Go.TypeDesc.tuple #[26, 31]) := Tryd.underlying44
@[go_sem] theorem und45 : Tryd.prog.underlying 45 = some (Go.TypeDesc.func #[9, 9, 3, 3, 23] #[26, 31] true) := Tryd.underlying45
@[go_sem] theorem und46 : Tryd.prog.underlying 46 = some (Go.TypeDesc.array 2 3) := Tryd.underlying46
@[go_sem] theorem und47 : Tryd.prog.underlying 47 = some (Go.TypeDesc.func #[] #[3] false) := Tryd.underlying47
@[go_sem] theorem und48 : Tryd.prog.underlying 48 = some (Go.TypeDesc.func #[26, 26] #[4] false) := Tryd.underlying48
@[go_sem] theorem und49 : Tryd.prog.underlying 49 = some (Go.TypeDesc.func #[9, 9] #[27] false) := Tryd.underlying49
@[go_sem] theorem und50 : Tryd.prog.underlying 50 = some (Go.TypeDesc.func #[43, 3] #[4] false) := Tryd.underlying50
@[go_sem] theorem und51 : Tryd.prog.underlying 51 = some (Go.TypeDesc.struct #[{ name := "Value", type := 26, offset := 0, embedded := true, tag := "", pkgPath := "", byteOffset := 0 }, { name := "now", type := 3, offset := 4, embedded := false, tag := "", pkgPath := "escutcheon/claim", byteOffset := 72 }]) := Tryd.underlying51
@[go_sem] theorem und52 : Tryd.prog.underlying 52 = some (Go.TypeDesc.struct #[{ name := "Value", type := 26, offset := 0, embedded := true, tag := "", pkgPath := "", byteOffset := 0 }, { name := "now", type := 3, offset := 4, embedded := false, tag := "", pkgPath := "escutcheon/claim", byteOffset := 72 }]) := Tryd.underlying52
@[go_sem] theorem und53 : Tryd.prog.underlying 53 = some (Go.TypeDesc.func #[40] #[31] false) := Tryd.underlying53
@[go_sem] theorem und54 : Tryd.prog.underlying 54 = some (Go.TypeDesc.func #[3] #[4] false) := Tryd.underlying54
@[go_sem] theorem und55 : Tryd.prog.underlying 55 = some (Go.TypeDesc.struct #[{ name := "year", type := 3, offset := 0, embedded := false, tag := "", pkgPath := "escutcheon/hour", byteOffset := 0 }, { name := "month", type := 3, offset := 1, embedded := false, tag := "", pkgPath := "escutcheon/hour", byteOffset := 8 }, { name := "day", type := 3, offset := 2, embedded := false, tag := "", pkgPath := "escutcheon/hour", byteOffset := 16 }]) := Tryd.underlying55
@[go_sem] theorem und56 : Tryd.prog.underlying 56 = some (Go.TypeDesc.struct #[{ name := "year", type := 3, offset := 0, embedded := false, tag := "", pkgPath := "escutcheon/hour", byteOffset := 0 }, { name := "month", type := 3, offset := 1, embedded := false, tag := "", pkgPath := "escutcheon/hour", byteOffset := 8 }, { name := "day", type := 3, offset := 2, embedded := false, tag := "", pkgPath := "escutcheon/hour", byteOffset := 16 }]) := Tryd.underlying56
@[go_sem] theorem und57 : Tryd.prog.underlying 57 = some (Go.TypeDesc.struct #[{ name := "date", type := 56, offset := 0, embedded := true, tag := "", pkgPath := "escutcheon/hour", byteOffset := 0 }, { name := "hour", type := 3, offset := 3, embedded := false, tag := "", pkgPath := "escutcheon/hour", byteOffset := 24 }, { name := "minute", type := 3, offset := 4, embedded := false, tag := "", pkgPath := "escutcheon/hour", byteOffset := 32 }, { name := "second", type := 3, offset := 5, embedded := false, tag := "", pkgPath := "escutcheon/hour", byteOffset := 40 }]) := Tryd.underlying57
@[go_sem] theorem und58 : Tryd.prog.underlying 58 = some (Go.TypeDesc.struct #[{ name := "date", type := 56, offset := 0, embedded := true, tag := "", pkgPath := "escutcheon/hour", byteOffset := 0 }, { name := "hour", type := 3, offset := 3, embedded := false, tag := "", pkgPath := "escutcheon/hour", byteOffset := 24 }, { name := "minute", type := 3, offset := 4, embedded := false, tag := "", pkgPath := "escutcheon/hour", byteOffset := 32 }, { name := "second", type := 3, offset := 5, embedded := false, tag := "", pkgPath := "escutcheon/hour", byteOffset := 40 }]) := Tryd.underlying58
@[go_sem] theorem und59 : Tryd.prog.underlying 59 = some (Go.TypeDesc.func #[3] #[58] false) := Tryd.underlying59
@[go_sem] theorem und60 : Tryd.prog.underlying 60 = some (Go.TypeDesc.pointer 63) := Tryd.underlying60
@[go_sem] theorem und61 : Tryd.prog.underlying 61 = some (Go.TypeDesc.slice 5) := Tryd.underlying61
@[go_sem] theorem und62 : Tryd.prog.underlying 62 = some (Go.TypeDesc.struct #[{ name := "addr", type := 60, offset := 0, embedded := false, tag := "", pkgPath := "strings", byteOffset := 0 }, { name := "buf", type := 61, offset := 1, embedded := false, tag := "", pkgPath := "strings", byteOffset := 8 }]) := Tryd.underlying62
@[go_sem] theorem und63 : Tryd.prog.underlying 63 = some (Go.TypeDesc.struct #[{ name := "addr", type := 60, offset := 0, embedded := false, tag := "", pkgPath := "strings", byteOffset := 0 }, { name := "buf", type := 61, offset := 1, embedded := false, tag := "", pkgPath := "strings", byteOffset := 8 }]) := Tryd.underlying63
@[go_sem] theorem und64 : Tryd.prog.underlying 64 = some (Go.TypeDesc.interface #[("Error", 70)]) := Tryd.underlying64
@[go_sem] theorem und65 : Tryd.prog.underlying 65 = some (Go.TypeDesc.interface #[("Error", 70)]) := Tryd.underlying65
@[go_sem] theorem und66 : Tryd.prog.underlying 66 = some (Go.TypeDesc.tuple #[3, 65]) := Tryd.underlying66
@[go_sem] theorem und67 : Tryd.prog.underlying 67 = some (Go.TypeDesc.func #[9] #[3, 65] false) := Tryd.underlying67
@[go_sem] theorem und68 : Tryd.prog.underlying 68 = some (Go.TypeDesc.func #[3, 3] #[9] false) := Tryd.underlying68
@[go_sem] theorem und69 : Tryd.prog.underlying 69 = some (Go.TypeDesc.array 5 3) := Tryd.underlying69
@[go_sem] theorem und70 : Tryd.prog.underlying 70 = some (Go.TypeDesc.func #[] #[9] false) := Tryd.underlying70
@[go_sem] theorem und71 : Tryd.prog.underlying 71 = some (Go.TypeDesc.func #[87] #[] false) := Tryd.underlying71
@[go_sem] theorem und72 : Tryd.prog.underlying 72 = some (Go.TypeDesc.func #[87] #[] false) := Tryd.underlying72
@[go_sem] theorem und73 : Tryd.prog.underlying 73 = some (Go.TypeDesc.func #[23, 3] #[72] false) := Tryd.underlying73
@[go_sem] theorem und74 : Tryd.prog.underlying 74 = some (Go.TypeDesc.func #[3] #[31] false) := Tryd.underlying74
@[go_sem] theorem und75 : Tryd.prog.underlying 75 = some (Go.TypeDesc.func #[88] #[23] true) := Tryd.underlying75
@[go_sem] theorem und76 : Tryd.prog.underlying 76 = some (Go.TypeDesc.func #[3, 3, 3, 3, 3, 3] #[3] false) := Tryd.underlying76
@[go_sem] theorem und77 : Tryd.prog.underlying 77 = some (Go.TypeDesc.func #[23, 23] #[4] false) := Tryd.underlying77
@[go_sem] theorem und78 : Tryd.prog.underlying 78 = some (Go.TypeDesc.func #[24, 24, 48] #[4] false) := Tryd.underlying78
@[go_sem] theorem und79 : Tryd.prog.underlying 79 = some (Go.TypeDesc.tuple #[9, 4]) := Tryd.underlying79
@[go_sem] theorem und80 : Tryd.prog.underlying 80 = some (Go.TypeDesc.func #[9] #[9, 4] false) := Tryd.underlying80
@[go_sem] theorem und81 : Tryd.prog.underlying 81 = some (Go.TypeDesc.func #[9, 3] #[31] false) := Tryd.underlying81
@[go_sem] theorem und82 : Tryd.prog.underlying 82 = some (Go.TypeDesc.func #[3] #[3] false) := Tryd.underlying82
@[go_sem] theorem und83 : Tryd.prog.underlying 83 = some (Go.TypeDesc.func #[3, 3] #[3] false) := Tryd.underlying83
@[go_sem] theorem und84 : Tryd.prog.underlying 84 = some (Go.TypeDesc.func #[3] #[9] false) := Tryd.underlying84
@[go_sem] theorem und85 : Tryd.prog.underlying 85 = some (Go.TypeDesc.func #[9, 3] #[9] false) := Tryd.underlying85
@[go_sem] theorem und86 : Tryd.prog.underlying 86 = some (Go.TypeDesc.pointer 5) := Tryd.underlying86
@[go_sem] theorem und87 : Tryd.prog.underlying 87 = some (Go.TypeDesc.func #[23] #[4] false) := Tryd.underlying87
@[go_sem] theorem und88 : Tryd.prog.underlying 88 = some (Go.TypeDesc.slice 23) := Tryd.underlying88
@[go_sem] theorem und89 : Tryd.prog.underlying 89 = some (Go.TypeDesc.func #[23, 3] #[23] false) := Tryd.underlying89
@[go_sem] theorem und90 : Tryd.prog.underlying 90 = some (Go.TypeDesc.tuple #[26, 4]) := Tryd.underlying90
@[go_sem] theorem und91 : Tryd.prog.underlying 91 = some (Go.TypeDesc.func #[9] #[26, 4] false) := Tryd.underlying91
@[go_sem] theorem und92 : Tryd.prog.underlying 92 = some (Go.TypeDesc.tuple #[3, 31]) := Tryd.underlying92
@[go_sem] theorem und93 : Tryd.prog.underlying 93 = some (Go.TypeDesc.func #[9] #[3, 31] false) := Tryd.underlying93
@[go_sem] theorem und94 : Tryd.prog.underlying 94 = some (Go.TypeDesc.array 12 3) := Tryd.underlying94
@[go_sem] theorem und95 : Tryd.prog.underlying 95 = some Go.TypeDesc.unsafePointer := Tryd.underlying95
@[go_sem] theorem und96 : Tryd.prog.underlying 96 = some (Go.TypeDesc.func #[95] #[95] false) := Tryd.underlying96
@[go_sem] theorem und97 : Tryd.prog.underlying 97 = some (Go.TypeDesc.int Go.IntKind.u64) := Tryd.underlying97
@[go_sem] theorem und98 : Tryd.prog.underlying 98 = some (Go.TypeDesc.tuple #[97, 97]) := Tryd.underlying98
@[go_sem] theorem und99 : Tryd.prog.underlying 99 = some (Go.TypeDesc.func #[97, 97] #[97, 97] false) := Tryd.underlying99
@[go_sem] theorem und100 : Tryd.prog.underlying 100 = some (Go.TypeDesc.func #[9, 9] #[4] false) := Tryd.underlying100
@[go_sem] theorem und101 : Tryd.prog.underlying 101 = some (Go.TypeDesc.func #[3] #[] false) := Tryd.underlying101
@[go_sem] theorem und102 : Tryd.prog.underlying 102 = some (Go.TypeDesc.func #[9] #[3] false) := Tryd.underlying102
@[go_sem] theorem und103 : Tryd.prog.underlying 103 = some (Go.TypeDesc.func #[9] #[4] false) := Tryd.underlying103
@[go_sem] theorem und104 : Tryd.prog.underlying 104 = some (Go.TypeDesc.func #[23, 103] #[4] false) := Tryd.underlying104
@[go_sem] theorem und105 : Tryd.prog.underlying 105 = some (Go.TypeDesc.func #[23, 9] #[4] false) := Tryd.underlying105
@[go_sem] theorem und106 : Tryd.prog.underlying 106 = some (Go.TypeDesc.func #[23, 9] #[3] false) := Tryd.underlying106
@[go_sem] theorem und107 : Tryd.prog.underlying 107 = some (Go.TypeDesc.func #[2, 3] #[9] false) := Tryd.underlying107
@[go_sem] theorem und108 : Tryd.prog.underlying 108 = some (Go.TypeDesc.int Go.IntKind.u32) := Tryd.underlying108
@[go_sem] theorem und109 : Tryd.prog.underlying 109 = some (Go.TypeDesc.tuple #[108, 108]) := Tryd.underlying109
@[go_sem] theorem und110 : Tryd.prog.underlying 110 = some (Go.TypeDesc.func #[108, 108] #[108, 108] false) := Tryd.underlying110
@[go_sem] theorem und111 : Tryd.prog.underlying 111 = some (Go.TypeDesc.int Go.IntKind.u64) := Tryd.underlying111
@[go_sem] theorem und112 : Tryd.prog.underlying 112 = some (Go.TypeDesc.tuple #[111, 111]) := Tryd.underlying112
@[go_sem] theorem und113 : Tryd.prog.underlying 113 = some (Go.TypeDesc.func #[111, 111] #[111, 111] false) := Tryd.underlying113
@[go_sem] theorem und114 : Tryd.prog.underlying 114 = some (Go.TypeDesc.func #[9] #[12] false) := Tryd.underlying114
@[go_sem] theorem und115 : Tryd.prog.underlying 115 = some (Go.TypeDesc.array 256 5) := Tryd.underlying115
@[go_sem] theorem und116 : Tryd.prog.underlying 116 = some (Go.TypeDesc.struct #[{ name := "lo", type := 5, offset := 0, embedded := false, tag := "", pkgPath := "unicode/utf8", byteOffset := 0 }, { name := "hi", type := 5, offset := 1, embedded := false, tag := "", pkgPath := "unicode/utf8", byteOffset := 1 }]) := Tryd.underlying116
@[go_sem] theorem und117 : Tryd.prog.underlying 117 = some (Go.TypeDesc.struct #[{ name := "lo", type := 5, offset := 0, embedded := false, tag := "", pkgPath := "unicode/utf8", byteOffset := 0 }, { name := "hi", type := 5, offset := 1, embedded := false, tag := "", pkgPath := "unicode/utf8", byteOffset := 1 }]) := Tryd.underlying117
@[go_sem] theorem und118 : Tryd.prog.underlying 118 = some (Go.TypeDesc.array 16 117) := Tryd.underlying118
@[go_sem] theorem und119 : Tryd.prog.underlying 119 = some (Go.TypeDesc.func #[23, 103] #[3] false) := Tryd.underlying119
@[go_sem] theorem und120 : Tryd.prog.underlying 120 = some (Go.TypeDesc.array 24 5) := Tryd.underlying120
@[go_sem] theorem und121 : Tryd.prog.underlying 121 = some (Go.TypeDesc.func #[111] #[3] false) := Tryd.underlying121
@[go_sem] theorem und122 : Tryd.prog.underlying 122 = some (Go.TypeDesc.func #[61, 111] #[] false) := Tryd.underlying122
@[go_sem] theorem und123 : Tryd.prog.underlying 123 = some (Go.TypeDesc.tuple #[61, 9]) := Tryd.underlying123
@[go_sem] theorem und124 : Tryd.prog.underlying 124 = some (Go.TypeDesc.func #[61, 111, 3, 4, 4] #[61, 9] false) := Tryd.underlying124
@[go_sem] theorem und125 : Tryd.prog.underlying 125 = some (Go.TypeDesc.func #[3] #[61] false) := Tryd.underlying125
@[go_sem] theorem und126 : Tryd.prog.underlying 126 = some (Go.TypeDesc.func #[9, 9, 3, 3, 65] #[65] false) := Tryd.underlying126
@[go_sem] theorem und127 : Tryd.prog.underlying 127 = some (Go.TypeDesc.func #[4] #[3] false) := Tryd.underlying127
@[go_sem] theorem und128 : Tryd.prog.underlying 128 = some (Go.TypeDesc.array 20 111) := Tryd.underlying128
@[go_sem] theorem und129 : Tryd.prog.underlying 129 = some (Go.TypeDesc.array 65 5) := Tryd.underlying129
@[go_sem] theorem und130 : Tryd.prog.underlying 130 = some (Go.TypeDesc.func #[97] #[3] false) := Tryd.underlying130
@[go_sem] theorem und131 : Tryd.prog.underlying 131 = some (Go.TypeDesc.int Go.IntKind.i64) := Tryd.underlying131
@[go_sem] theorem und132 : Tryd.prog.underlying 132 = some (Go.TypeDesc.tuple #[2, 65]) := Tryd.underlying132
@[go_sem] theorem und133 : Tryd.prog.underlying 133 = some (Go.TypeDesc.func #[9, 3, 3] #[2, 65] false) := Tryd.underlying133
@[go_sem] theorem und134 : Tryd.prog.underlying 134 = some (Go.TypeDesc.pointer 142) := Tryd.underlying134
@[go_sem] theorem und135 : Tryd.prog.underlying 135 = some (Go.TypeDesc.func #[9, 9] #[134] false) := Tryd.underlying135
@[go_sem] theorem und136 : Tryd.prog.underlying 136 = some (Go.TypeDesc.func #[9, 9, 3] #[134] false) := Tryd.underlying136
@[go_sem] theorem und137 : Tryd.prog.underlying 137 = some (Go.TypeDesc.func #[108] #[3] false) := Tryd.underlying137
@[go_sem] theorem und138 : Tryd.prog.underlying 138 = some (Go.TypeDesc.tuple #[111, 65]) := Tryd.underlying138
@[go_sem] theorem und139 : Tryd.prog.underlying 139 = some (Go.TypeDesc.func #[9, 3, 3] #[111, 65] false) := Tryd.underlying139
@[go_sem] theorem und140 : Tryd.prog.underlying 140 = some (Go.TypeDesc.func #[9] #[9] false) := Tryd.underlying140
@[go_sem] theorem und141 : Tryd.prog.underlying 141 = some (Go.TypeDesc.struct #[{ name := "Func", type := 9, offset := 0, embedded := false, tag := "", pkgPath := "", byteOffset := 0 }, { name := "Num", type := 9, offset := 1, embedded := false, tag := "", pkgPath := "", byteOffset := 16 }, { name := "Err", type := 65, offset := 2, embedded := false, tag := "", pkgPath := "", byteOffset := 32 }]) := Tryd.underlying141
@[go_sem] theorem und142 : Tryd.prog.underlying 142 = some (Go.TypeDesc.struct #[{ name := "Func", type := 9, offset := 0, embedded := false, tag := "", pkgPath := "", byteOffset := 0 }, { name := "Num", type := 9, offset := 1, embedded := false, tag := "", pkgPath := "", byteOffset := 16 }, { name := "Err", type := 65, offset := 2, embedded := false, tag := "", pkgPath := "", byteOffset := 32 }]) := Tryd.underlying142
@[go_sem] theorem und143 : Tryd.prog.underlying 143 = some (Go.TypeDesc.func #[9] #[65] false) := Tryd.underlying143
@[go_sem] theorem und144 : Tryd.prog.underlying 144 = some (Go.TypeDesc.array 32 5) := Tryd.underlying144
@[go_sem] theorem und145 : Tryd.prog.underlying 145 = some (Go.TypeDesc.array 64 5) := Tryd.underlying145
@[go_sem] theorem und146 : Tryd.prog.underlying 146 = some (Go.TypeDesc.func #[5] #[5] false) := Tryd.underlying146
@[go_sem] theorem und147 : Tryd.prog.underlying 147 = some (Go.TypeDesc.pointer 149) := Tryd.underlying147
@[go_sem] theorem und148 : Tryd.prog.underlying 148 = some (Go.TypeDesc.struct #[{ name := "s", type := 9, offset := 0, embedded := false, tag := "", pkgPath := "errors", byteOffset := 0 }]) := Tryd.underlying148
@[go_sem] theorem und149 : Tryd.prog.underlying 149 = some (Go.TypeDesc.struct #[{ name := "s", type := 9, offset := 0, embedded := false, tag := "", pkgPath := "errors", byteOffset := 0 }]) := Tryd.underlying149
@[go_sem] theorem und150 : Tryd.prog.underlying 150 = some (Go.TypeDesc.struct #[{ name := "_interface", type := 17, offset := 0, embedded := false, tag := "", pkgPath := "runtime", byteOffset := 0 }, { name := "concrete", type := 17, offset := 1, embedded := false, tag := "", pkgPath := "runtime", byteOffset := 8 }, { name := "asserted", type := 17, offset := 2, embedded := false, tag := "", pkgPath := "runtime", byteOffset := 16 }, { name := "missingMethod", type := 9, offset := 3, embedded := false, tag := "", pkgPath := "runtime", byteOffset := 24 }]) := Tryd.underlying150
@[go_sem] theorem und151 : Tryd.prog.underlying 151 = some (Go.TypeDesc.struct #[{ name := "_interface", type := 17, offset := 0, embedded := false, tag := "", pkgPath := "runtime", byteOffset := 0 }, { name := "concrete", type := 17, offset := 1, embedded := false, tag := "", pkgPath := "runtime", byteOffset := 8 }, { name := "asserted", type := 17, offset := 2, embedded := false, tag := "", pkgPath := "runtime", byteOffset := 16 }, { name := "missingMethod", type := 9, offset := 3, embedded := false, tag := "", pkgPath := "runtime", byteOffset := 24 }]) := Tryd.underlying151
@[go_sem] theorem und152 : Tryd.prog.underlying 152 = some (Go.TypeDesc.array 0 16) := Tryd.underlying152
@[go_sem] theorem und153 : Tryd.prog.underlying 153 = some (Go.TypeDesc.struct #[{ name := "_", type := 152, offset := 0, embedded := false, tag := "", pkgPath := "runtime", byteOffset := 0 }]) := Tryd.underlying153
@[go_sem] theorem und154 : Tryd.prog.underlying 154 = some (Go.TypeDesc.struct #[{ name := "_", type := 152, offset := 0, embedded := false, tag := "", pkgPath := "runtime", byteOffset := 0 }]) := Tryd.underlying154
@[go_sem] theorem und155 : Tryd.prog.underlying 155 = some (Go.TypeDesc.int Go.IntKind.u8) := Tryd.underlying155
@[go_sem] theorem und156 : Tryd.prog.underlying 156 = some (Go.TypeDesc.int Go.IntKind.u8) := Tryd.underlying156
@[go_sem] theorem und157 : Tryd.prog.underlying 157 = some (Go.TypeDesc.func #[95, 95] #[4] false) := Tryd.underlying157
@[go_sem] theorem und158 : Tryd.prog.underlying 158 = some (Go.TypeDesc.int Go.IntKind.i32) := Tryd.underlying158
@[go_sem] theorem und159 : Tryd.prog.underlying 159 = some (Go.TypeDesc.int Go.IntKind.i32) := Tryd.underlying159
@[go_sem] theorem und160 : Tryd.prog.underlying 160 = some (Go.TypeDesc.struct #[{ name := "Size_", type := 12, offset := 0, embedded := false, tag := "", pkgPath := "", byteOffset := 0 }, { name := "PtrBytes", type := 12, offset := 1, embedded := false, tag := "", pkgPath := "", byteOffset := 8 }, { name := "Hash", type := 108, offset := 2, embedded := false, tag := "", pkgPath := "", byteOffset := 16 }, { name := "TFlag", type := 155, offset := 3, embedded := false, tag := "", pkgPath := "", byteOffset := 20 }, { name := "Align_", type := 5, offset := 4, embedded := false, tag := "", pkgPath := "", byteOffset := 21 }, { name := "FieldAlign_", type := 5, offset := 5, embedded := false, tag := "", pkgPath := "", byteOffset := 22 }, { name := "Kind_", type := 156, offset := 6, embedded := false, tag := "", pkgPath := "", byteOffset := 23 }, { name := "Equal", type := 157, offset := 7, embedded := false, tag := "", pkgPath := "", byteOffset := 24 }, { name := "GCData", type := 86, offset := 8, embedded := false, tag := "", pkgPath := "", byteOffset := 32 }, { name := "Str", type := 158, offset := 9, embedded := false, tag := "", pkgPath := "", byteOffset := 40 }, { name := "PtrToThis", type := 159, offset := 10, embedded := false, tag := "", pkgPath := "", byteOffset := 44 }]) := Tryd.underlying160
@[go_sem] theorem und161 : Tryd.prog.underlying 161 = some (Go.TypeDesc.struct #[{ name := "Size_", type := 12, offset := 0, embedded := false, tag := "", pkgPath := "", byteOffset := 0 }, { name := "PtrBytes", type := 12, offset := 1, embedded := false, tag := "", pkgPath := "", byteOffset := 8 }, { name := "Hash", type := 108, offset := 2, embedded := false, tag := "", pkgPath := "", byteOffset := 16 }, { name := "TFlag", type := 155, offset := 3, embedded := false, tag := "", pkgPath := "", byteOffset := 20 }, { name := "Align_", type := 5, offset := 4, embedded := false, tag := "", pkgPath := "", byteOffset := 21 }, { name := "FieldAlign_", type := 5, offset := 5, embedded := false, tag := "", pkgPath := "", byteOffset := 22 }, { name := "Kind_", type := 156, offset := 6, embedded := false, tag := "", pkgPath := "", byteOffset := 23 }, { name := "Equal", type := 157, offset := 7, embedded := false, tag := "", pkgPath := "", byteOffset := 24 }, { name := "GCData", type := 86, offset := 8, embedded := false, tag := "", pkgPath := "", byteOffset := 32 }, { name := "Str", type := 158, offset := 9, embedded := false, tag := "", pkgPath := "", byteOffset := 40 }, { name := "PtrToThis", type := 159, offset := 10, embedded := false, tag := "", pkgPath := "", byteOffset := 44 }]) := Tryd.underlying161
end Go.Abs.S
namespace Go.Abs.S
open Go.Proofs
set_option maxRecDepth 100000
def impCodC : FuncId → Bool := fun f => f == 20 || f == 22 || f == 35 || f == 51 || f == 67
/-- escutcheon/escutcheonlaw22.ClaimTimes -/
def lc4 : LCode := .seq (.reg []
  [⟨some 6, .assign (.const (.bool false)), none⟩]) (.seq (.seq (.reg []
  [⟨some 12, .call { callee := .value (.func 6), args := #[], argTypes := #[] }, none⟩,
  ⟨some 13, .unOp .not 4 (.tmp 12), none⟩,
  ⟨some 14, .move (.tmp 13), none⟩,
  ⟨some 15, .move (.tmp 2), (some (14, false))⟩,
  ⟨some 16, .call { callee := .builtin .len, args := #[.tmp 15], argTypes := #[9] }, (some (14, false))⟩,
  ⟨some 17, .binOp .gtr 3 (.tmp 16) (.const (.int .i64 60)) 3, (some (14, false))⟩,
  ⟨some 18, .pick (.tmp 14) (.const (.bool true)) (.tmp 17), none⟩]) (.cond (.tmp 18) (.seq (.reg []
  [⟨some 19, .call { callee := .value (.func 6), args := #[], argTypes := #[] }, none⟩,
  ⟨some 6, .assign (.tmp 19), none⟩]) (.ret)) (.skip))) (.seq (.reg []
  [⟨some 21, .move (.tmp 0), none⟩,
  ⟨some 22, .call { callee := .value (.func 9), args := #[.tmp 21], argTypes := #[3] }, none⟩,
  ⟨some 20, .move (.tmp 22), none⟩,
  ⟨some 23, .extract (.tmp 20) 0, none⟩,
  ⟨some 24, .extract (.tmp 20) 1, none⟩,
  ⟨some 7, .assign (.tmp 23), none⟩,
  ⟨some 8, .assign (.tmp 24), none⟩]) (.seq (.reg []
  [⟨some 25, .move (.tmp 2), none⟩,
  ⟨some 26, .move (.tmp 7), none⟩,
  ⟨some 27, .buildSlice 23 2 #[(0, .tmp 25), (1, .tmp 26)], none⟩,
  ⟨some 28, .call { callee := .value (.func 10), args := #[.tmp 27], argTypes := #[23] }, none⟩,
  ⟨some 9, .alloc 26, none⟩,
  ⟨none, .store 26 (.tmp 9) (.tmp 28), none⟩]) (.seq (.seq (.reg []
  [⟨some 29, .move (.tmp 8), none⟩,
  ⟨some 30, .binOp .neq 31 (.tmp 29) (.const (.int .i64 0)) 31, none⟩,
  ⟨some 31, .move (.tmp 30), none⟩,
  ⟨some 32, .load 26 (.tmp 9), (some (31, false))⟩,
  ⟨some 33, .call { callee := .value (.func 11), args := #[.tmp 32], argTypes := #[26] }, (some (31, false))⟩,
  ⟨some 34, .binOp .neq 31 (.tmp 33) (.const (.int .i64 0)) 31, (some (31, false))⟩,
  ⟨some 35, .pick (.tmp 31) (.const (.bool true)) (.tmp 34), none⟩]) (.cond (.tmp 35) (.seq (.reg []
  [⟨some 6, .assign (.const (.bool true)), none⟩]) (.ret)) (.skip))) (.seq (.reg []
  [⟨some 36, .load 26 (.tmp 9), none⟩,
  ⟨some 37, .move (.tmp 1), none⟩,
  ⟨some 38, .move (.tmp 2), none⟩,
  ⟨some 39, .build 40 #[(0, .const (.int .i64 3)), (1, .tmp 38)], none⟩,
  ⟨some 40, .buildSlice 27 1 #[(0, .tmp 39)], none⟩,
  ⟨some 41, .call { callee := .value (.func 8), args := #[.tmp 36, .tmp 37, .tmp 40], argTypes := #[26, 3, 27] }, none⟩,
  ⟨some 10, .assign (.tmp 41), none⟩]) (.seq (.reg []
  [⟨some 42, .load 26 (.tmp 9), none⟩,
  ⟨some 43, .move (.tmp 1), none⟩,
  ⟨some 44, .move (.tmp 2), none⟩,
  ⟨some 45, .build 40 #[(0, .const (.int .i64 4)), (1, .tmp 44)], none⟩,
  ⟨some 46, .buildSlice 27 1 #[(0, .tmp 45)], none⟩,
  ⟨some 47, .call { callee := .value (.func 8), args := #[.tmp 42, .tmp 43, .tmp 46], argTypes := #[26, 3, 27] }, none⟩,
  ⟨some 11, .assign (.tmp 47), none⟩]) (.seq (.seq (.reg []
  [⟨some 48, .move (.tmp 1), none⟩,
  ⟨some 49, .move (.tmp 0), none⟩,
  ⟨some 50, .binOp .lss 3 (.tmp 48) (.tmp 49) 3, none⟩]) (.cond (.tmp 50) (.seq (.reg []
  [⟨some 51, .move (.tmp 10), none⟩,
  ⟨some 52, .binOp .eql 31 (.tmp 51) (.const (.int .i64 13)) 31, none⟩,
  ⟨some 53, .move (.tmp 52), none⟩,
  ⟨some 54, .move (.tmp 11), (some (53, true))⟩,
  ⟨some 55, .binOp .eql 31 (.tmp 54) (.const (.int .i64 0)) 31, (some (53, true))⟩,
  ⟨some 56, .pick (.tmp 53) (.tmp 55) (.const (.bool false)), none⟩,
  ⟨some 6, .assign (.tmp 56), none⟩]) (.ret)) (.skip))) (.seq (.reg []
  [⟨some 57, .move (.tmp 10), none⟩,
  ⟨some 58, .binOp .eql 31 (.tmp 57) (.const (.int .i64 0)) 31, none⟩,
  ⟨some 59, .move (.tmp 58), none⟩,
  ⟨some 60, .move (.tmp 11), (some (59, true))⟩,
  ⟨some 61, .binOp .eql 31 (.tmp 60) (.const (.int .i64 14)) 31, (some (59, true))⟩,
  ⟨some 62, .pick (.tmp 59) (.tmp 61) (.const (.bool false)), none⟩,
  ⟨some 6, .assign (.tmp 62), none⟩]) (.ret)))))))))
theorem ls4 : Tryd.f4.body.map (strip Tryd.prog impCodC) = some lc4 := by kernel_rfl
theorem lcall4 {args : List AV} (hargs : args.length ≤ 63) {H0 : AHeap} (lo : Nat) (hlo : H0.length ≤ lo) {r0 : AV} {H0' : AHeap}
    (h : lavc Tryd.prog glob lc4 (args ++ List.replicate (63 - args.length) (.v undef)) H0 fun e t H => (e = .normal ∨ e = .ret) ∧ aret Tryd.prog t H [Go.ResultVar.tmp 6] fun r => Fin lo H r r0 H0') :
    ACall Tryd.prog glob (H0.length == 0) 4 args H0 r0 H0' := LCall' ctx Tryd.func4 (by kernel_rfl) ls4 (by kernel_rfl) (by kernel_rfl) hargs lo hlo h
/-- escutcheon/escutcheonlaw22.awake -/
def lc6 : LCode := .seq (.reg []
  [⟨some 0, .assign (.const (.bool false)), none⟩]) (.seq (.reg []
  [⟨some 4, .call { callee := .value (.func 12), args := #[.const (.string { data := #[105] }), .const (.string { data := #[97] }), .const (.int .i64 0), .const (.int .i64 5), .const (.slice none 0 0)], argTypes := #[9, 9, 3, 3, 23] }, none⟩,
  ⟨some 3, .move (.tmp 4), none⟩,
  ⟨some 5, .extract (.tmp 3) 0, none⟩,
  ⟨some 6, .extract (.tmp 3) 1, none⟩,
  ⟨some 1, .alloc 26, none⟩,
  ⟨none, .store 26 (.tmp 1) (.tmp 5), none⟩,
  ⟨some 2, .assign (.tmp 6), none⟩]) (.seq (.reg [⟨some 7, .move (.tmp 2), none⟩,
  ⟨some 8, .binOp .eql 31 (.tmp 7) (.const (.int .i64 0)) 31, none⟩,
  ⟨some 9, .move (.tmp 8), none⟩,
  ⟨some 10, .load 26 (.tmp 1), (some (9, true))⟩,
  ⟨some 11, .call { callee := .value (.func 16), args := #[.const (.string { data := #[105] }), .const (.string { data := #[97] })], argTypes := #[9, 9] }, (some (9, true))⟩,
  ⟨some 12, .call { callee := .value (.func 8), args := #[.tmp 10, .const (.int .i64 5), .tmp 11], argTypes := #[26, 3, 27] }, (some (9, true))⟩,
  ⟨some 13, .binOp .eql 31 (.tmp 12) (.const (.int .i64 14)) 31, (some (9, true))⟩,
  ⟨some 14, .pick (.tmp 9) (.tmp 13) (.const (.bool false)), none⟩,
  ⟨some 0, .assign (.tmp 14), none⟩]
  []) (.ret)))
theorem ls6 : Tryd.f6.body.map (strip Tryd.prog impCodC) = some lc6 := by kernel_rfl
theorem lcall6 {args : List AV} (hargs : args.length ≤ 15) {H0 : AHeap} (lo : Nat) (hlo : H0.length ≤ lo) {r0 : AV} {H0' : AHeap}
    (h : lavc Tryd.prog glob lc6 (args ++ List.replicate (15 - args.length) (.v undef)) H0 fun e t H => (e = .normal ∨ e = .ret) ∧ aret Tryd.prog t H [Go.ResultVar.tmp 0] fun r => Fin lo H r r0 H0') :
    ACall Tryd.prog glob (H0.length == 0) 6 args H0 r0 H0' := LCall' ctx Tryd.func6 (by kernel_rfl) ls6 (by kernel_rfl) (by kernel_rfl) hargs lo hlo h
/-- escutcheon/claim.Check -/
def lc8 : LCode := .seq (.reg []
  [⟨some 3, .box 26 (.tmp 0), none⟩,
  ⟨some 6, .assign (.const (.int .i64 0)), none⟩]) (.seq (.reg []
  [⟨some 11, .load 26 (.tmp 3), none⟩,
  ⟨some 12, .move (.tmp 1), none⟩,
  ⟨some 13, .build 52 #[(0, .tmp 11), (1, .tmp 12)], none⟩,
  ⟨some 7, .alloc 52, none⟩,
  ⟨none, .store 52 (.tmp 7) (.tmp 13), none⟩]) (.seq (.seq (.reg []
  [⟨some 14, .fieldAddr 52 (.tmp 7) 0, none⟩,
  ⟨some 15, .fieldAddr 26 (.tmp 14) 0, none⟩,
  ⟨some 16, .load 22 (.tmp 15), none⟩,
  ⟨some 17, .binOp .neq 22 (.tmp 16) (.const (.int .i64 6)) 22, none⟩,
  ⟨some 18, .move (.tmp 17), none⟩,
  ⟨some 19, .load 26 (.tmp 3), (some (18, false))⟩,
  ⟨some 20, .call { callee := .value (.func 11), args := #[.tmp 19], argTypes := #[26] }, (some (18, false))⟩,
  ⟨some 21, .binOp .neq 31 (.tmp 20) (.const (.int .i64 0)) 31, (some (18, false))⟩,
  ⟨some 22, .pick (.tmp 18) (.const (.bool true)) (.tmp 21), none⟩]) (.cond (.tmp 22) (.seq (.reg []
  [⟨some 6, .assign (.const (.int .i64 2)), none⟩]) (.ret)) (.skip))) (.seq (.seq (.reg []
  [⟨some 23, .move (.tmp 2), none⟩,
  ⟨some 24, .call { callee := .builtin .len, args := #[.tmp 23], argTypes := #[27] }, none⟩,
  ⟨some 25, .move (.const (.int .i64 0)), none⟩]) (.block 0 (.loop (.seq (.reg []
  [⟨some 26, .binOp .lss 3 (.tmp 25) (.tmp 24) 3, none⟩]) (.seq (.cond (.tmp 26) (.skip) (.exit 0)) (.seq (.block 1 (.seq (.reg []
  [⟨some 27, .indexAddr 27 (.tmp 23) (.tmp 25), none⟩,
  ⟨some 28, .load 40 (.tmp 27), none⟩,
  ⟨some 9, .alloc 40, none⟩,
  ⟨none, .store 40 (.tmp 9) (.tmp 28), none⟩]) (.seq (.reg []
  [⟨some 29, .load 52 (.tmp 7), none⟩,
  ⟨some 30, .load 40 (.tmp 9), none⟩,
  ⟨some 31, .call { callee := .value (.func 17), args := #[.tmp 29, .tmp 30], argTypes := #[52, 40] }, none⟩,
  ⟨some 10, .assign (.tmp 31), none⟩]) (.seq (.reg []
  [⟨some 32, .move (.tmp 10), none⟩,
  ⟨some 33, .binOp .neq 31 (.tmp 32) (.const (.int .i64 0)) 31, none⟩]) (.cond (.tmp 33) (.seq (.reg []
  [⟨some 34, .move (.tmp 10), none⟩,
  ⟨some 6, .assign (.tmp 34), none⟩]) (.ret)) (.skip)))))) (.reg []
  [⟨some 35, .binOp .add 3 (.tmp 25) (.const (.int .i64 1)) 3, none⟩,
  ⟨some 25, .move (.tmp 35), none⟩]))))))) (.seq (.reg []
  [⟨some 6, .assign (.const (.int .i64 0)), none⟩]) (.ret)))))
def ms8_0 : List Nat := [0, 1, 2, 3, 4, 5, 6, 8, 9, 10, 11, 12, 13, 14, 15, 16, 17, 18, 19, 20, 21, 22, 25, 26, 27, 28, 29, 30, 31, 32, 33, 34, 35]
theorem ls8 : Tryd.f8.body.map (strip Tryd.prog impCodC) = some lc8 := by kernel_rfl
theorem lcall8 {args : List AV} (hargs : args.length ≤ 36) {H0 : AHeap} (lo : Nat) (hlo : H0.length ≤ lo) {r0 : AV} {H0' : AHeap}
    (h : lavc Tryd.prog glob lc8 (args ++ List.replicate (36 - args.length) (.v undef)) H0 fun e t H => (e = .normal ∨ e = .ret) ∧ aret Tryd.prog t H [Go.ResultVar.tmp 6] fun r => Fin lo H r r0 H0') :
    ACall Tryd.prog glob (H0.length == 0) 8 args H0 r0 H0' := LCall' ctx Tryd.func8 (by kernel_rfl) ls8 (by kernel_rfl) (by kernel_rfl) hargs lo hlo h
/-- escutcheon/page.Of -/
def lc10 : LCode := .seq (.reg []
  [⟨some 2, .alloc 26, none⟩]) (.seq (.reg []
  [⟨some 5, .build 26 #[(0, .const (.int .i64 6))], none⟩,
  ⟨some 3, .alloc 26, none⟩,
  ⟨none, .store 26 (.tmp 3) (.tmp 5), none⟩]) (.seq (.seq (.reg []
  [⟨some 6, .move (.tmp 0), none⟩,
  ⟨some 7, .call { callee := .value (.func 23), args := #[.tmp 6, .const (.int .i64 2)], argTypes := #[23, 3] }, none⟩]) (.block 0 (.bad))) (.seq (.reg []
  [⟨some 29, .load 26 (.tmp 3), none⟩,
  ⟨none, .store 26 (.tmp 2) (.tmp 29), none⟩]) (.ret))))
theorem ls10 : Tryd.f10.body.map (strip Tryd.prog impCodC) = some lc10 := by kernel_rfl
theorem lcall10 {args : List AV} (hargs : args.length ≤ 30) {H0 : AHeap} (lo : Nat) (hlo : H0.length ≤ lo) {r0 : AV} {H0' : AHeap}
    (h : lavc Tryd.prog glob lc10 (args ++ List.replicate (30 - args.length) (.v undef)) H0 fun e t H => (e = .normal ∨ e = .ret) ∧ aret Tryd.prog t H [Go.ResultVar.cell 2 26] fun r => Fin lo H r r0 H0') :
    ACall Tryd.prog glob (H0.length == 0) 10 args H0 r0 H0' := LCall' ctx Tryd.func10 (by kernel_rfl) ls10 (by kernel_rfl) (by kernel_rfl) hargs lo hlo h
/-- escutcheon/page.Good -/
def lc11 : LCode := .seq (.reg []
  [⟨some 1, .box 26 (.tmp 0), none⟩,
  ⟨some 2, .assign (.const (.int .i64 0)), none⟩]) (.seq (.reg []
  [⟨some 3, .load 26 (.tmp 1), none⟩,
  ⟨some 4, .call { callee := .value (.func 24), args := #[.tmp 3, .const (.int .i64 1)], argTypes := #[26, 3] }, none⟩,
  ⟨some 2, .assign (.tmp 4), none⟩]) (.ret))
theorem ls11 : Tryd.f11.body.map (strip Tryd.prog impCodC) = some lc11 := by kernel_rfl
theorem lcall11 {args : List AV} (hargs : args.length ≤ 5) {H0 : AHeap} (lo : Nat) (hlo : H0.length ≤ lo) {r0 : AV} {H0' : AHeap}
    (h : lavc Tryd.prog glob lc11 (args ++ List.replicate (5 - args.length) (.v undef)) H0 fun e t H => (e = .normal ∨ e = .ret) ∧ aret Tryd.prog t H [Go.ResultVar.tmp 2] fun r => Fin lo H r r0 H0') :
    ACall Tryd.prog glob (H0.length == 0) 11 args H0 r0 H0' := LCall' ctx Tryd.func11 (by kernel_rfl) ls11 (by kernel_rfl) (by kernel_rfl) hargs lo hlo h
/-- escutcheon/claim.Make -/
def lc12 : LCode := .seq (.reg []
  [⟨some 10, .alloc 26, none⟩,
  ⟨some 11, .assign (.const (.int .i64 0)), none⟩]) (.seq (.reg []
  [⟨some 18, .move (.tmp 2), none⟩,
  ⟨some 19, .call { callee := .value (.func 9), args := #[.tmp 18], argTypes := #[3] }, none⟩,
  ⟨some 17, .move (.tmp 19), none⟩,
  ⟨some 20, .extract (.tmp 17) 0, none⟩,
  ⟨some 21, .extract (.tmp 17) 1, none⟩,
  ⟨some 12, .assign (.tmp 20), none⟩,
  ⟨some 13, .assign (.tmp 21), none⟩]) (.seq (.seq (.reg []
  [⟨some 22, .move (.tmp 13), none⟩,
  ⟨some 23, .binOp .neq 31 (.tmp 22) (.const (.int .i64 0)) 31, none⟩]) (.cond (.tmp 23) (.seq (.reg []
  [⟨some 24, .build 26 #[], none⟩,
  ⟨some 25, .move (.tmp 13), none⟩,
  ⟨none, .store 26 (.tmp 10) (.tmp 24), none⟩,
  ⟨some 11, .assign (.tmp 25), none⟩]) (.ret)) (.skip))) (.seq (.reg []
  [⟨some 27, .move (.tmp 3), none⟩,
  ⟨some 28, .call { callee := .value (.func 9), args := #[.tmp 27], argTypes := #[3] }, none⟩,
  ⟨some 26, .move (.tmp 28), none⟩,
  ⟨some 29, .extract (.tmp 26) 0, none⟩,
  ⟨some 30, .extract (.tmp 26) 1, none⟩,
  ⟨some 14, .assign (.tmp 29), none⟩,
  ⟨some 13, .assign (.tmp 30), none⟩]) (.seq (.seq (.reg []
  [⟨some 31, .move (.tmp 13), none⟩,
  ⟨some 32, .binOp .neq 31 (.tmp 31) (.const (.int .i64 0)) 31, none⟩]) (.cond (.tmp 32) (.seq (.reg []
  [⟨some 33, .build 26 #[], none⟩,
  ⟨some 34, .move (.tmp 13), none⟩,
  ⟨none, .store 26 (.tmp 10) (.tmp 33), none⟩,
  ⟨some 11, .assign (.tmp 34), none⟩]) (.ret)) (.skip))) (.seq (.reg []
  [⟨some 35, .move (.tmp 0), none⟩,
  ⟨some 36, .move (.tmp 1), none⟩,
  ⟨some 37, .move (.tmp 12), none⟩,
  ⟨some 38, .move (.tmp 14), none⟩,
  ⟨some 39, .buildSlice 23 8 #[(0, .const (.string { data := #[105, 115, 115] })), (1, .tmp 35), (2, .const (.string { data := #[97, 117, 100] })), (3, .tmp 36), (4, .const (.string { data := #[110, 98, 102] })), (5, .tmp 37), (6, .const (.string { data := #[101, 120, 112] })), (7, .tmp 38)], none⟩,
  ⟨some 40, .move (.tmp 4), none⟩,
  ⟨some 41, .buildSlice 88 2 #[(0, .tmp 39), (1, .tmp 40)], none⟩,
  ⟨some 42, .call { callee := .value (.func 25), args := #[.tmp 41], argTypes := #[88] }, none⟩,
  ⟨some 43, .call { callee := .value (.func 10), args := #[.tmp 42], argTypes := #[23] }, none⟩,
  ⟨some 15, .alloc 26, none⟩,
  ⟨none, .store 26 (.tmp 15) (.tmp 43), none⟩]) (.seq (.seq (.reg []
  [⟨some 44, .load 26 (.tmp 15), none⟩,
  ⟨some 45, .call { callee := .value (.func 11), args := #[.tmp 44], argTypes := #[26] }, none⟩,
  ⟨some 16, .assign (.tmp 45), none⟩]) (.seq (.reg []
  [⟨some 46, .move (.tmp 16), none⟩,
  ⟨some 47, .binOp .neq 31 (.tmp 46) (.const (.int .i64 0)) 31, none⟩]) (.cond (.tmp 47) (.seq (.reg []
  [⟨some 48, .build 26 #[], none⟩,
  ⟨some 49, .move (.tmp 16), none⟩,
  ⟨none, .store 26 (.tmp 10) (.tmp 48), none⟩,
  ⟨some 11, .assign (.tmp 49), none⟩]) (.ret)) (.skip)))) (.seq (.reg []
  [⟨some 50, .load 26 (.tmp 15), none⟩,
  ⟨none, .store 26 (.tmp 10) (.tmp 50), none⟩,
  ⟨some 11, .assign (.const (.int .i64 0)), none⟩]) (.ret))))))))
theorem ls12 : Tryd.f12.body.map (strip Tryd.prog impCodC) = some lc12 := by kernel_rfl
theorem lcall12 {args : List AV} (hargs : args.length ≤ 51) {H0 : AHeap} (lo : Nat) (hlo : H0.length ≤ lo) {r0 : AV} {H0' : AHeap}
    (h : lavc Tryd.prog glob lc12 (args ++ List.replicate (51 - args.length) (.v undef)) H0 fun e t H => (e = .normal ∨ e = .ret) ∧ aret Tryd.prog t H [Go.ResultVar.cell 10 26, Go.ResultVar.tmp 11] fun r => Fin lo H r r0 H0') :
    ACall Tryd.prog glob (H0.length == 0) 12 args H0 r0 H0' := LCall' ctx Tryd.func12 (by kernel_rfl) ls12 (by kernel_rfl) (by kernel_rfl) hargs lo hlo h
/-- escutcheon/claim.Usual -/
def lc16 : LCode := .seq (.reg []
  [⟨some 4, .assign (.const (.slice none 0 0)), none⟩]) (.seq (.reg []
  [⟨some 5, .move (.tmp 0), none⟩,
  ⟨some 6, .build 40 #[(0, .const (.int .i64 1)), (1, .const (.string { data := #[105, 115, 115] })), (2, .tmp 5)], none⟩,
  ⟨some 7, .move (.tmp 1), none⟩,
  ⟨some 8, .build 40 #[(0, .const (.int .i64 1)), (1, .const (.string { data := #[97, 117, 100] })), (2, .tmp 7)], none⟩,
  ⟨some 9, .build 40 #[(0, .const (.int .i64 3)), (1, .const (.string { data := #[110, 98, 102] })), (2, .const (.string { data := #[] }))], none⟩,
  ⟨some 10, .build 40 #[(0, .const (.int .i64 4)), (1, .const (.string { data := #[101, 120, 112] })), (2, .const (.string { data := #[] }))], none⟩,
  ⟨some 11, .buildSlice 27 4 #[(0, .tmp 6), (1, .tmp 8), (2, .tmp 9), (3, .tmp 10)], none⟩,
  ⟨some 4, .assign (.tmp 11), none⟩]) (.ret))
theorem ls16 : Tryd.f16.body.map (strip Tryd.prog impCodC) = some lc16 := by kernel_rfl
theorem lcall16 {args : List AV} (hargs : args.length ≤ 12) {H0 : AHeap} (lo : Nat) (hlo : H0.length ≤ lo) {r0 : AV} {H0' : AHeap}
    (h : lavc Tryd.prog glob lc16 (args ++ List.replicate (12 - args.length) (.v undef)) H0 fun e t H => (e = .normal ∨ e = .ret) ∧ aret Tryd.prog t H [Go.ResultVar.tmp 4] fun r => Fin lo H r r0 H0') :
    ACall Tryd.prog glob (H0.length == 0) 16 args H0 r0 H0' := LCall' ctx Tryd.func16 (by kernel_rfl) ls16 (by kernel_rfl) (by kernel_rfl) hargs lo hlo h
/-- (escutcheon/claim.claims).check -/
def lc17 : LCode := .seq (.reg []
  [⟨some 2, .box 52 (.tmp 0), none⟩,
  ⟨some 3, .box 40 (.tmp 1), none⟩,
  ⟨some 4, .assign (.const (.int .i64 0)), none⟩]) (.seq (.seq (.reg []
  [⟨some 7, .fieldAddr 40 (.tmp 3) 0, none⟩,
  ⟨some 8, .load 38 (.tmp 7), none⟩,
  ⟨some 9, .binOp .lss 38 (.tmp 8) (.const (.int .i64 1)) 38, none⟩,
  ⟨some 10, .move (.tmp 9), none⟩,
  ⟨some 11, .fieldAddr 40 (.tmp 3) 0, (some (10, false))⟩,
  ⟨some 12, .load 38 (.tmp 11), (some (10, false))⟩,
  ⟨some 13, .binOp .gtr 38 (.tmp 12) (.const (.int .i64 4)) 38, (some (10, false))⟩,
  ⟨some 14, .pick (.tmp 10) (.const (.bool true)) (.tmp 13), none⟩]) (.cond (.tmp 14) (.seq (.reg []
  [⟨some 4, .assign (.const (.int .i64 2)), none⟩]) (.ret)) (.skip))) (.seq (.reg []
  [⟨some 16, .load 52 (.tmp 2), none⟩,
  ⟨some 17, .fieldAddr 40 (.tmp 3) 1, none⟩,
  ⟨some 18, .load 9 (.tmp 17), none⟩,
  ⟨some 19, .call { callee := .value (.func 29), args := #[.tmp 16, .tmp 18], argTypes := #[52, 9] }, none⟩,
  ⟨some 15, .move (.tmp 19), none⟩,
  ⟨some 20, .extract (.tmp 15) 0, none⟩,
  ⟨some 21, .extract (.tmp 15) 1, none⟩,
  ⟨some 5, .assign (.tmp 20), none⟩,
  ⟨some 6, .assign (.tmp 21), none⟩]) (.seq (.seq (.reg []
  [⟨some 22, .move (.tmp 6), none⟩,
  ⟨some 23, .unOp .not 4 (.tmp 22), none⟩]) (.cond (.tmp 23) (.seq (.reg []
  [⟨some 4, .assign (.const (.int .i64 15)), none⟩]) (.ret)) (.skip))) (.seq (.reg []
  [⟨some 24, .load 40 (.tmp 3), none⟩,
  ⟨some 25, .move (.tmp 5), none⟩,
  ⟨some 26, .fieldAddr 52 (.tmp 2) 1, none⟩,
  ⟨some 27, .load 3 (.tmp 26), none⟩,
  ⟨some 28, .call { callee := .value (.func 30), args := #[.tmp 24, .tmp 25, .tmp 27], argTypes := #[40, 9, 3] }, none⟩,
  ⟨some 4, .assign (.tmp 28), none⟩]) (.ret)))))
theorem ls17 : Tryd.f17.body.map (strip Tryd.prog impCodC) = some lc17 := by kernel_rfl
theorem lcall17 {args : List AV} (hargs : args.length ≤ 29) {H0 : AHeap} (lo : Nat) (hlo : H0.length ≤ lo) {r0 : AV} {H0' : AHeap}
    (h : lavc Tryd.prog glob lc17 (args ++ List.replicate (29 - args.length) (.v undef)) H0 fun e t H => (e = .normal ∨ e = .ret) ∧ aret Tryd.prog t H [Go.ResultVar.tmp 4] fun r => Fin lo H r r0 H0') :
    ACall Tryd.prog glob (H0.length == 0) 17 args H0 r0 H0' := LCall' ctx Tryd.func17 (by kernel_rfl) ls17 (by kernel_rfl) (by kernel_rfl) hargs lo hlo h
/-- (escutcheon/page.Value).good -/
def lc24 : LCode := .seq (.reg []
  [⟨some 2, .box 26 (.tmp 0), none⟩,
  ⟨some 4, .assign (.const (.int .i64 0)), none⟩]) (.seq (.block 0 (.seq (.reg []
  [⟨some 9, .move (.tmp 1), none⟩,
  ⟨some 10, .binOp .gtr 3 (.tmp 9) (.const (.int .i64 8)) 3, none⟩,
  ⟨some 8, .assign (.tmp 10), none⟩]) (.cond (.tmp 8) (.seq (.reg []
  [⟨some 4, .assign (.const (.int .i64 9)), none⟩]) (.ret)) (.seq (.reg []
  [⟨some 12, .load 26 (.tmp 2), none⟩,
  ⟨some 13, .call { callee := .value (.func 39), args := #[.tmp 12], argTypes := #[26] }, none⟩,
  ⟨some 14, .unOp .not 4 (.tmp 13), none⟩,
  ⟨some 11, .assign (.tmp 14), none⟩]) (.cond (.tmp 11) (.seq (.reg []
  [⟨some 4, .assign (.const (.int .i64 2)), none⟩]) (.ret)) (.seq (.reg []
  [⟨some 16, .fieldAddr 26 (.tmp 2) 3, none⟩,
  ⟨some 17, .load 24 (.tmp 16), none⟩,
  ⟨some 18, .call { callee := .builtin .len, args := #[.tmp 17], argTypes := #[24] }, none⟩,
  ⟨some 19, .binOp .gtr 3 (.tmp 18) (.const (.int .i64 64)) 3, none⟩,
  ⟨some 15, .assign (.tmp 19), none⟩]) (.cond (.tmp 15) (.seq (.reg []
  [⟨some 4, .assign (.const (.int .i64 11)), none⟩]) (.ret)) (.seq (.reg []
  [⟨some 21, .fieldAddr 26 (.tmp 2) 2, none⟩,
  ⟨some 22, .load 23 (.tmp 21), none⟩,
  ⟨some 23, .call { callee := .value (.func 40), args := #[.tmp 22], argTypes := #[23] }, none⟩,
  ⟨some 20, .assign (.tmp 23), none⟩]) (.cond (.tmp 20) (.seq (.reg []
  [⟨some 4, .assign (.const (.int .i64 10)), none⟩]) (.ret)) (.skip)))))))))) (.seq (.seq (.reg []
  [⟨some 24, .fieldAddr 26 (.tmp 2) 3, none⟩,
  ⟨some 25, .load 24 (.tmp 24), none⟩,
  ⟨some 26, .call { callee := .builtin .len, args := #[.tmp 25], argTypes := #[24] }, none⟩,
  ⟨some 27, .move (.const (.int .i64 0)), none⟩]) (.block 1 (.loop (.seq (.reg []
  [⟨some 28, .binOp .lss 3 (.tmp 27) (.tmp 26) 3, none⟩]) (.seq (.cond (.tmp 28) (.skip) (.exit 1)) (.seq (.block 2 (.seq (.reg []
  [⟨some 29, .indexAddr 24 (.tmp 25) (.tmp 27), none⟩,
  ⟨some 30, .load 26 (.tmp 29), none⟩,
  ⟨some 6, .alloc 26, none⟩,
  ⟨none, .store 26 (.tmp 6) (.tmp 30), none⟩]) (.seq (.reg []
  [⟨some 31, .load 26 (.tmp 6), none⟩,
  ⟨some 32, .move (.tmp 1), none⟩,
  ⟨some 33, .binOp .add 3 (.tmp 32) (.const (.int .i64 1)) 3, none⟩,
  ⟨some 34, .call { callee := .value (.func 24), args := #[.tmp 31, .tmp 33], argTypes := #[26, 3] }, none⟩,
  ⟨some 7, .assign (.tmp 34), none⟩]) (.seq (.reg []
  [⟨some 35, .move (.tmp 7), none⟩,
  ⟨some 36, .binOp .neq 31 (.tmp 35) (.const (.int .i64 0)) 31, none⟩]) (.cond (.tmp 36) (.seq (.reg []
  [⟨some 37, .move (.tmp 7), none⟩,
  ⟨some 4, .assign (.tmp 37), none⟩]) (.ret)) (.skip)))))) (.reg []
  [⟨some 38, .binOp .add 3 (.tmp 27) (.const (.int .i64 1)) 3, none⟩,
  ⟨some 27, .move (.tmp 38), none⟩]))))))) (.seq (.reg []
  [⟨some 4, .assign (.const (.int .i64 0)), none⟩]) (.ret))))
def ms24_0 : List Nat := [0, 2, 3, 4, 5, 6, 7, 8, 9, 10, 11, 12, 13, 14, 15, 16, 17, 18, 19, 20, 21, 22, 23, 24, 27, 28, 29, 30, 31, 32, 33, 34, 35, 36, 37, 38]
theorem ls24 : Tryd.f24.body.map (strip Tryd.prog impCodC) = some lc24 := by kernel_rfl
theorem lcall24 {args : List AV} (hargs : args.length ≤ 39) {H0 : AHeap} (lo : Nat) (hlo : H0.length ≤ lo) {r0 : AV} {H0' : AHeap}
    (h : lavc Tryd.prog glob lc24 (args ++ List.replicate (39 - args.length) (.v undef)) H0 fun e t H => (e = .normal ∨ e = .ret) ∧ aret Tryd.prog t H [Go.ResultVar.tmp 4] fun r => Fin lo H r r0 H0') :
    ACall Tryd.prog glob (H0.length == 0) 24 args H0 r0 H0' := LCall' ctx Tryd.func24 (by kernel_rfl) ls24 (by kernel_rfl) (by kernel_rfl) hargs lo hlo h
/-- (escutcheon/claim.claims).text -/
def lc29 : LCode := .seq (.reg []
  [⟨some 2, .box 52 (.tmp 0), none⟩,
  ⟨some 4, .assign (.const (.string { data := #[] })), none⟩,
  ⟨some 5, .assign (.const (.bool false)), none⟩]) (.seq (.reg []
  [⟨some 9, .fieldAddr 52 (.tmp 2) 0, none⟩,
  ⟨some 10, .load 26 (.tmp 9), none⟩,
  ⟨some 11, .move (.tmp 1), none⟩,
  ⟨some 12, .call { callee := .value (.func 44), args := #[.tmp 10, .tmp 11], argTypes := #[26, 9] }, none⟩,
  ⟨some 8, .move (.tmp 12), none⟩,
  ⟨some 13, .extract (.tmp 8) 0, none⟩,
  ⟨some 14, .extract (.tmp 8) 1, none⟩,
  ⟨some 6, .alloc 26, none⟩,
  ⟨none, .store 26 (.tmp 6) (.tmp 13), none⟩,
  ⟨some 7, .assign (.tmp 14), none⟩]) (.seq (.reg [⟨some 15, .fieldAddr 26 (.tmp 6) 1, none⟩,
  ⟨some 16, .load 9 (.tmp 15), none⟩,
  ⟨some 17, .move (.tmp 7), none⟩,
  ⟨some 18, .move (.tmp 17), none⟩,
  ⟨some 19, .fieldAddr 26 (.tmp 6) 0, (some (18, true))⟩,
  ⟨some 20, .load 22 (.tmp 19), (some (18, true))⟩,
  ⟨some 21, .binOp .eql 22 (.tmp 20) (.const (.int .i64 4)) 22, (some (18, true))⟩,
  ⟨some 22, .pick (.tmp 18) (.tmp 21) (.const (.bool false)), none⟩,
  ⟨some 4, .assign (.tmp 16), none⟩,
  ⟨some 5, .assign (.tmp 22), none⟩]
  []) (.ret)))
theorem ls29 : Tryd.f29.body.map (strip Tryd.prog impCodC) = some lc29 := by kernel_rfl
theorem lcall29 {args : List AV} (hargs : args.length ≤ 23) {H0 : AHeap} (lo : Nat) (hlo : H0.length ≤ lo) {r0 : AV} {H0' : AHeap}
    (h : lavc Tryd.prog glob lc29 (args ++ List.replicate (23 - args.length) (.v undef)) H0 fun e t H => (e = .normal ∨ e = .ret) ∧ aret Tryd.prog t H [Go.ResultVar.tmp 4, Go.ResultVar.tmp 5] fun r => Fin lo H r r0 H0') :
    ACall Tryd.prog glob (H0.length == 0) 29 args H0 r0 H0' := LCall' ctx Tryd.func29 (by kernel_rfl) ls29 (by kernel_rfl) (by kernel_rfl) hargs lo hlo h
/-- (escutcheon/claim.Rule).wrong -/
def lc30 : LCode := .seq (.reg []
  [⟨some 3, .box 40 (.tmp 0), none⟩,
  ⟨some 6, .assign (.const (.int .i64 0)), none⟩]) (.seq (.seq (.reg []
  [⟨some 9, .fieldAddr 40 (.tmp 3) 0, none⟩,
  ⟨some 10, .load 38 (.tmp 9), none⟩,
  ⟨some 11, .binOp .eql 38 (.tmp 10) (.const (.int .i64 1)) 38, none⟩,
  ⟨some 12, .move (.tmp 11), none⟩,
  ⟨some 13, .move (.tmp 1), (some (12, true))⟩,
  ⟨some 14, .fieldAddr 40 (.tmp 3) 2, (some (12, true))⟩,
  ⟨some 15, .load 9 (.tmp 14), (some (12, true))⟩,
  ⟨some 16, .binOp .neq 9 (.tmp 13) (.tmp 15) 9, (some (12, true))⟩,
  ⟨some 17, .pick (.tmp 12) (.tmp 16) (.const (.bool false)), none⟩]) (.cond (.tmp 17) (.seq (.reg []
  [⟨some 6, .assign (.const (.int .i64 15)), none⟩]) (.ret)) (.skip))) (.seq (.seq (.reg []
  [⟨some 18, .fieldAddr 40 (.tmp 3) 0, none⟩,
  ⟨some 19, .load 38 (.tmp 18), none⟩,
  ⟨some 20, .binOp .eql 38 (.tmp 19) (.const (.int .i64 1)) 38, none⟩,
  ⟨some 21, .move (.tmp 20), none⟩,
  ⟨some 22, .fieldAddr 40 (.tmp 3) 0, (some (21, false))⟩,
  ⟨some 23, .load 38 (.tmp 22), (some (21, false))⟩,
  ⟨some 24, .binOp .eql 38 (.tmp 23) (.const (.int .i64 2)) 38, (some (21, false))⟩,
  ⟨some 25, .pick (.tmp 21) (.const (.bool true)) (.tmp 24), none⟩]) (.cond (.tmp 25) (.seq (.reg []
  [⟨some 6, .assign (.const (.int .i64 0)), none⟩]) (.ret)) (.skip))) (.seq (.reg []
  [⟨some 27, .move (.tmp 1), none⟩,
  ⟨some 28, .call { callee := .value (.func 45), args := #[.tmp 27], argTypes := #[9] }, none⟩,
  ⟨some 26, .move (.tmp 28), none⟩,
  ⟨some 29, .extract (.tmp 26) 0, none⟩,
  ⟨some 30, .extract (.tmp 26) 1, none⟩,
  ⟨some 7, .assign (.tmp 29), none⟩,
  ⟨some 8, .assign (.tmp 30), none⟩]) (.seq (.block 0 (.seq (.reg []
  [⟨some 32, .move (.tmp 8), none⟩,
  ⟨some 33, .binOp .neq 31 (.tmp 32) (.const (.int .i64 0)) 31, none⟩,
  ⟨some 31, .assign (.tmp 33), none⟩]) (.cond (.tmp 31) (.seq (.reg []
  [⟨some 6, .assign (.const (.int .i64 12)), none⟩]) (.ret)) (.seq (.reg []
  [⟨some 35, .fieldAddr 40 (.tmp 3) 0, none⟩,
  ⟨some 36, .load 38 (.tmp 35), none⟩,
  ⟨some 37, .binOp .eql 38 (.tmp 36) (.const (.int .i64 3)) 38, none⟩,
  ⟨some 38, .move (.tmp 37), none⟩,
  ⟨some 39, .move (.tmp 7), (some (38, true))⟩,
  ⟨some 40, .move (.tmp 2), (some (38, true))⟩,
  ⟨some 41, .binOp .gtr 3 (.tmp 39) (.tmp 40) 3, (some (38, true))⟩,
  ⟨some 42, .pick (.tmp 38) (.tmp 41) (.const (.bool false)), none⟩,
  ⟨some 34, .assign (.tmp 42), none⟩]) (.cond (.tmp 34) (.seq (.reg []
  [⟨some 6, .assign (.const (.int .i64 13)), none⟩]) (.ret)) (.seq (.reg []
  [⟨some 44, .fieldAddr 40 (.tmp 3) 0, none⟩,
  ⟨some 45, .load 38 (.tmp 44), none⟩,
  ⟨some 46, .binOp .eql 38 (.tmp 45) (.const (.int .i64 4)) 38, none⟩,
  ⟨some 47, .move (.tmp 46), none⟩,
  ⟨some 48, .move (.tmp 7), (some (47, true))⟩,
  ⟨some 49, .move (.tmp 2), (some (47, true))⟩,
  ⟨some 50, .binOp .leq 3 (.tmp 48) (.tmp 49) 3, (some (47, true))⟩,
  ⟨some 51, .pick (.tmp 47) (.tmp 50) (.const (.bool false)), none⟩,
  ⟨some 43, .assign (.tmp 51), none⟩]) (.cond (.tmp 43) (.seq (.reg []
  [⟨some 6, .assign (.const (.int .i64 14)), none⟩]) (.ret)) (.skip)))))))) (.seq (.reg []
  [⟨some 6, .assign (.const (.int .i64 0)), none⟩]) (.ret))))))
theorem ls30 : Tryd.f30.body.map (strip Tryd.prog impCodC) = some lc30 := by kernel_rfl
theorem lcall30 {args : List AV} (hargs : args.length ≤ 52) {H0 : AHeap} (lo : Nat) (hlo : H0.length ≤ lo) {r0 : AV} {H0' : AHeap}
    (h : lavc Tryd.prog glob lc30 (args ++ List.replicate (52 - args.length) (.v undef)) H0 fun e t H => (e = .normal ∨ e = .ret) ∧ aret Tryd.prog t H [Go.ResultVar.tmp 6] fun r => Fin lo H r r0 H0') :
    ACall Tryd.prog glob (H0.length == 0) 30 args H0 r0 H0' := LCall' ctx Tryd.func30 (by kernel_rfl) ls30 (by kernel_rfl) (by kernel_rfl) hargs lo hlo h
/-- (escutcheon/page.Value).form -/
def lc39 : LCode := .seq (.reg []
  [⟨some 1, .box 26 (.tmp 0), none⟩,
  ⟨some 2, .assign (.const (.bool false)), none⟩]) (.seq (.seq (.reg []
  [⟨some 3, .fieldAddr 26 (.tmp 1) 0, none⟩,
  ⟨some 4, .load 22 (.tmp 3), none⟩]) (.block 0 (.seq (.seq (.reg []
  [⟨some 6, .binOp .eql 22 (.tmp 4) (.const (.int .i64 0)) 22, none⟩,
  ⟨some 5, .assign (.tmp 6), none⟩]) (.cond (.tmp 5) (.skip) (.seq (.reg []
  [⟨some 7, .binOp .eql 22 (.tmp 4) (.const (.int .i64 1)) 22, none⟩,
  ⟨some 5, .assign (.tmp 7), none⟩]) (.cond (.tmp 5) (.skip) (.reg []
  [⟨some 8, .binOp .eql 22 (.tmp 4) (.const (.int .i64 2)) 22, none⟩,
  ⟨some 5, .assign (.tmp 8), none⟩]))))) (.cond (.tmp 5) (.seq (.reg []
  [⟨some 9, .fieldAddr 26 (.tmp 1) 1, none⟩,
  ⟨some 10, .load 9 (.tmp 9), none⟩,
  ⟨some 11, .binOp .eql 9 (.tmp 10) (.const (.string { data := #[] })) 9, none⟩,
  ⟨some 12, .move (.tmp 11), none⟩,
  ⟨some 13, .fieldAddr 26 (.tmp 1) 2, (some (12, true))⟩,
  ⟨some 14, .load 23 (.tmp 13), (some (12, true))⟩,
  ⟨some 15, .call { callee := .builtin .len, args := #[.tmp 14], argTypes := #[23] }, (some (12, true))⟩,
  ⟨some 16, .binOp .eql 3 (.tmp 15) (.const (.int .i64 0)) 3, (some (12, true))⟩,
  ⟨some 17, .pick (.tmp 12) (.tmp 16) (.const (.bool false)), none⟩,
  ⟨some 18, .move (.tmp 17), none⟩,
  ⟨some 19, .fieldAddr 26 (.tmp 1) 3, (some (18, true))⟩,
  ⟨some 20, .load 24 (.tmp 19), (some (18, true))⟩,
  ⟨some 21, .call { callee := .builtin .len, args := #[.tmp 20], argTypes := #[24] }, (some (18, true))⟩,
  ⟨some 22, .binOp .eql 3 (.tmp 21) (.const (.int .i64 0)) 3, (some (18, true))⟩,
  ⟨some 23, .pick (.tmp 18) (.tmp 22) (.const (.bool false)), none⟩,
  ⟨some 2, .assign (.tmp 23), none⟩]) (.ret)) (.seq (.reg []
  [⟨some 25, .binOp .eql 22 (.tmp 4) (.const (.int .i64 3)) 22, none⟩,
  ⟨some 24, .assign (.tmp 25), none⟩]) (.cond (.tmp 24) (.seq (.reg [⟨some 26, .fieldAddr 26 (.tmp 1) 2, none⟩,
  ⟨some 27, .load 23 (.tmp 26), none⟩,
  ⟨some 28, .call { callee := .builtin .len, args := #[.tmp 27], argTypes := #[23] }, none⟩,
  ⟨some 29, .binOp .eql 3 (.tmp 28) (.const (.int .i64 0)) 3, none⟩,
  ⟨some 30, .move (.tmp 29), none⟩,
  ⟨some 31, .fieldAddr 26 (.tmp 1) 3, (some (30, true))⟩,
  ⟨some 32, .load 24 (.tmp 31), (some (30, true))⟩,
  ⟨some 33, .call { callee := .builtin .len, args := #[.tmp 32], argTypes := #[24] }, (some (30, true))⟩,
  ⟨some 34, .binOp .eql 3 (.tmp 33) (.const (.int .i64 0)) 3, (some (30, true))⟩,
  ⟨some 35, .pick (.tmp 30) (.tmp 34) (.const (.bool false)), none⟩,
  ⟨some 36, .move (.tmp 35), none⟩,
  ⟨some 37, .fieldAddr 26 (.tmp 1) 1, (some (36, true))⟩,
  ⟨some 38, .load 9 (.tmp 37), (some (36, true))⟩,
  ⟨some 39, .binOp .neq 9 (.tmp 38) (.const (.string { data := #[] })) 9, (some (36, true))⟩,
  ⟨some 40, .pick (.tmp 36) (.tmp 39) (.const (.bool false)), none⟩,
  ⟨some 41, .move (.tmp 40), none⟩,
  ⟨some 42, .fieldAddr 26 (.tmp 1) 1, (some (41, true))⟩,
  ⟨some 43, .load 9 (.tmp 42), (some (41, true))⟩,
  ⟨some 44, .call { callee := .builtin .len, args := #[.tmp 43], argTypes := #[9] }, (some (41, true))⟩,
  ⟨some 45, .binOp .leq 3 (.tmp 44) (.const (.int .i64 40)) 3, (some (41, true))⟩,
  ⟨some 46, .pick (.tmp 41) (.tmp 45) (.const (.bool false)), none⟩,
  ⟨some 47, .move (.tmp 46), none⟩,
  ⟨some 48, .fieldAddr 26 (.tmp 1) 1, (some (47, true))⟩,
  ⟨some 49, .load 9 (.tmp 48), (some (47, true))⟩,
  ⟨some 50, .call { callee := .value (.func 53), args := #[.tmp 49], argTypes := #[9] }, (some (47, true))⟩,
  ⟨some 51, .fieldAddr 26 (.tmp 1) 1, (some (47, true))⟩,
  ⟨some 52, .load 9 (.tmp 51), (some (47, true))⟩,
  ⟨some 53, .call { callee := .builtin .len, args := #[.tmp 52], argTypes := #[9] }, (some (47, true))⟩,
  ⟨some 54, .binOp .eql 3 (.tmp 50) (.tmp 53) 3, (some (47, true))⟩,
  ⟨some 55, .pick (.tmp 47) (.tmp 54) (.const (.bool false)), none⟩,
  ⟨some 2, .assign (.tmp 55), none⟩]
  []) (.ret)) (.seq (.reg []
  [⟨some 57, .binOp .eql 22 (.tmp 4) (.const (.int .i64 4)) 22, none⟩,
  ⟨some 56, .assign (.tmp 57), none⟩]) (.cond (.tmp 56) (.seq (.reg []
  [⟨some 58, .fieldAddr 26 (.tmp 1) 2, none⟩,
  ⟨some 59, .load 23 (.tmp 58), none⟩,
  ⟨some 60, .call { callee := .builtin .len, args := #[.tmp 59], argTypes := #[23] }, none⟩,
  ⟨some 61, .binOp .eql 3 (.tmp 60) (.const (.int .i64 0)) 3, none⟩,
  ⟨some 62, .move (.tmp 61), none⟩,
  ⟨some 63, .fieldAddr 26 (.tmp 1) 3, (some (62, true))⟩,
  ⟨some 64, .load 24 (.tmp 63), (some (62, true))⟩,
  ⟨some 65, .call { callee := .builtin .len, args := #[.tmp 64], argTypes := #[24] }, (some (62, true))⟩,
  ⟨some 66, .binOp .eql 3 (.tmp 65) (.const (.int .i64 0)) 3, (some (62, true))⟩,
  ⟨some 67, .pick (.tmp 62) (.tmp 66) (.const (.bool false)), none⟩,
  ⟨some 68, .move (.tmp 67), none⟩,
  ⟨some 69, .fieldAddr 26 (.tmp 1) 1, (some (68, true))⟩,
  ⟨some 70, .load 9 (.tmp 69), (some (68, true))⟩,
  ⟨some 71, .call { callee := .value (.func 54), args := #[.tmp 70], argTypes := #[9] }, (some (68, true))⟩,
  ⟨some 72, .pick (.tmp 68) (.tmp 71) (.const (.bool false)), none⟩,
  ⟨some 2, .assign (.tmp 72), none⟩]) (.ret)) (.seq (.reg []
  [⟨some 74, .binOp .eql 22 (.tmp 4) (.const (.int .i64 5)) 22, none⟩,
  ⟨some 73, .assign (.tmp 74), none⟩]) (.cond (.tmp 73) (.seq (.reg []
  [⟨some 75, .fieldAddr 26 (.tmp 1) 1, none⟩,
  ⟨some 76, .load 9 (.tmp 75), none⟩,
  ⟨some 77, .binOp .eql 9 (.tmp 76) (.const (.string { data := #[] })) 9, none⟩,
  ⟨some 78, .move (.tmp 77), none⟩,
  ⟨some 79, .fieldAddr 26 (.tmp 1) 2, (some (78, true))⟩,
  ⟨some 80, .load 23 (.tmp 79), (some (78, true))⟩,
  ⟨some 81, .call { callee := .builtin .len, args := #[.tmp 80], argTypes := #[23] }, (some (78, true))⟩,
  ⟨some 82, .binOp .eql 3 (.tmp 81) (.const (.int .i64 0)) 3, (some (78, true))⟩,
  ⟨some 83, .pick (.tmp 78) (.tmp 82) (.const (.bool false)), none⟩,
  ⟨some 2, .assign (.tmp 83), none⟩]) (.ret)) (.seq (.reg []
  [⟨some 85, .binOp .eql 22 (.tmp 4) (.const (.int .i64 6)) 22, none⟩,
  ⟨some 84, .assign (.tmp 85), none⟩]) (.cond (.tmp 84) (.seq (.reg []
  [⟨some 86, .fieldAddr 26 (.tmp 1) 1, none⟩,
  ⟨some 87, .load 9 (.tmp 86), none⟩,
  ⟨some 88, .binOp .eql 9 (.tmp 87) (.const (.string { data := #[] })) 9, none⟩,
  ⟨some 89, .move (.tmp 88), none⟩,
  ⟨some 90, .fieldAddr 26 (.tmp 1) 2, (some (89, true))⟩,
  ⟨some 91, .load 23 (.tmp 90), (some (89, true))⟩,
  ⟨some 92, .call { callee := .builtin .len, args := #[.tmp 91], argTypes := #[23] }, (some (89, true))⟩,
  ⟨some 93, .fieldAddr 26 (.tmp 1) 3, (some (89, true))⟩,
  ⟨some 94, .load 24 (.tmp 93), (some (89, true))⟩,
  ⟨some 95, .call { callee := .builtin .len, args := #[.tmp 94], argTypes := #[24] }, (some (89, true))⟩,
  ⟨some 96, .binOp .eql 3 (.tmp 92) (.tmp 95) 3, (some (89, true))⟩,
  ⟨some 97, .pick (.tmp 89) (.tmp 96) (.const (.bool false)), none⟩,
  ⟨some 98, .move (.tmp 97), none⟩,
  ⟨some 99, .fieldAddr 26 (.tmp 1) 2, (some (98, true))⟩,
  ⟨some 100, .load 23 (.tmp 99), (some (98, true))⟩,
  ⟨some 101, .call { callee := .value (.func 55), args := #[.tmp 100, .func 56], argTypes := #[23, 103] }, (some (98, true))⟩,
  ⟨some 102, .unOp .not 4 (.tmp 101), (some (98, true))⟩,
  ⟨some 103, .pick (.tmp 98) (.tmp 102) (.const (.bool false)), none⟩,
  ⟨some 2, .assign (.tmp 103), none⟩]) (.ret)) (.skip))))))))))))) (.seq (.reg []
  [⟨some 2, .assign (.const (.bool false)), none⟩]) (.ret)))
theorem ls39 : Tryd.f39.body.map (strip Tryd.prog impCodC) = some lc39 := by kernel_rfl
theorem lcall39 {args : List AV} (hargs : args.length ≤ 104) {H0 : AHeap} (lo : Nat) (hlo : H0.length ≤ lo) {r0 : AV} {H0' : AHeap}
    (h : lavc Tryd.prog glob lc39 (args ++ List.replicate (104 - args.length) (.v undef)) H0 fun e t H => (e = .normal ∨ e = .ret) ∧ aret Tryd.prog t H [Go.ResultVar.tmp 2] fun r => Fin lo H r r0 H0') :
    ACall Tryd.prog glob (H0.length == 0) 39 args H0 r0 H0' := LCall' ctx Tryd.func39 (by kernel_rfl) ls39 (by kernel_rfl) (by kernel_rfl) hargs lo hlo h
/-- escutcheon/page.twice -/
def lc40 : LCode := .seq (.reg []
  [⟨some 2, .assign (.const (.bool false)), none⟩]) (.seq (.seq (.reg []
  [⟨some 5, .move (.tmp 0), none⟩,
  ⟨some 6, .call { callee := .builtin .len, args := #[.tmp 5], argTypes := #[23] }, none⟩,
  ⟨some 7, .move (.const (.int .i64 0)), none⟩]) (.block 0 (.loop (.seq (.reg []
  [⟨some 8, .binOp .lss 3 (.tmp 7) (.tmp 6) 3, none⟩]) (.seq (.cond (.tmp 8) (.skip) (.exit 0)) (.seq (.block 1 (.seq (.reg []
  [⟨some 9, .move (.tmp 7), none⟩,
  ⟨some 10, .indexAddr 23 (.tmp 5) (.tmp 7), none⟩,
  ⟨some 11, .load 9 (.tmp 10), none⟩,
  ⟨some 3, .assign (.tmp 9), none⟩,
  ⟨some 4, .assign (.tmp 11), none⟩]) (.seq (.reg []
  [⟨some 12, .move (.tmp 0), none⟩,
  ⟨some 13, .move (.tmp 3), none⟩,
  ⟨some 14, .slice 23 (.tmp 12) none (some (.tmp 13)) none, none⟩,
  ⟨some 15, .move (.tmp 4), none⟩,
  ⟨some 16, .call { callee := .value (.func 57), args := #[.tmp 14, .tmp 15], argTypes := #[23, 9] }, none⟩]) (.cond (.tmp 16) (.seq (.reg []
  [⟨some 2, .assign (.const (.bool true)), none⟩]) (.ret)) (.skip))))) (.reg []
  [⟨some 17, .binOp .add 3 (.tmp 7) (.const (.int .i64 1)) 3, none⟩,
  ⟨some 7, .move (.tmp 17), none⟩]))))))) (.seq (.reg []
  [⟨some 2, .assign (.const (.bool false)), none⟩]) (.ret)))
def ms40_0 : List Nat := [1, 2, 3, 4, 7, 8, 9, 10, 11, 12, 13, 14, 15, 16, 17]
theorem ls40 : Tryd.f40.body.map (strip Tryd.prog impCodC) = some lc40 := by kernel_rfl
theorem lcall40 {args : List AV} (hargs : args.length ≤ 18) {H0 : AHeap} (lo : Nat) (hlo : H0.length ≤ lo) {r0 : AV} {H0' : AHeap}
    (h : lavc Tryd.prog glob lc40 (args ++ List.replicate (18 - args.length) (.v undef)) H0 fun e t H => (e = .normal ∨ e = .ret) ∧ aret Tryd.prog t H [Go.ResultVar.tmp 2] fun r => Fin lo H r r0 H0') :
    ACall Tryd.prog glob (H0.length == 0) 40 args H0 r0 H0' := LCall' ctx Tryd.func40 (by kernel_rfl) ls40 (by kernel_rfl) (by kernel_rfl) hargs lo hlo h
/-- slices.Grow[[]string,string] -/
def lc41 : LCode := .seq (.reg []
  [⟨some 4, .assign (.const (.slice none 0 0)), none⟩]) (.seq (.seq (.reg []
  [⟨some 5, .move (.tmp 1), none⟩,
  ⟨some 6, .binOp .lss 3 (.tmp 5) (.const (.int .i64 0)) 3, none⟩]) (.cond (.tmp 6) (.reg []
  [⟨some 7, .makeInterface 9 (.const (.string { data := #[99, 97, 110, 110, 111, 116, 32, 98, 101, 32, 110, 101, 103, 97, 116, 105, 118, 101] })), none⟩,
  ⟨none, .panic (.tmp 7), none⟩]) (.skip))) (.seq (.seq (.reg []
  [⟨some 8, .move (.tmp 1), none⟩,
  ⟨some 9, .move (.tmp 0), none⟩,
  ⟨some 10, .call { callee := .builtin .cap, args := #[.tmp 9], argTypes := #[23] }, none⟩,
  ⟨some 11, .move (.tmp 0), none⟩,
  ⟨some 12, .call { callee := .builtin .len, args := #[.tmp 11], argTypes := #[23] }, none⟩,
  ⟨some 13, .binOp .sub 3 (.tmp 10) (.tmp 12) 3, none⟩,
  ⟨some 14, .binOp .sub 3 (.tmp 8) (.tmp 13) 3, none⟩,
  ⟨some 1, .assign (.tmp 14), none⟩]) (.seq (.reg []
  [⟨some 15, .move (.tmp 1), none⟩,
  ⟨some 16, .binOp .gtr 3 (.tmp 15) (.const (.int .i64 0)) 3, none⟩]) (.cond (.tmp 16) (.reg []
  [⟨some 17, .move (.tmp 0), none⟩,
  ⟨some 18, .move (.tmp 0), none⟩,
  ⟨some 19, .call { callee := .builtin .cap, args := #[.tmp 18], argTypes := #[23] }, none⟩,
  ⟨some 20, .slice 23 (.tmp 17) none (some (.tmp 19)) none, none⟩,
  ⟨some 21, .move (.tmp 1), none⟩,
  ⟨some 22, .call { callee := .builtin .append, args := #[.tmp 20, .tmp 21], argTypes := #[23, 3] }, none⟩,
  ⟨some 23, .move (.tmp 0), none⟩,
  ⟨some 24, .call { callee := .builtin .len, args := #[.tmp 23], argTypes := #[23] }, none⟩,
  ⟨some 25, .slice 23 (.tmp 22) none (some (.tmp 24)) none, none⟩,
  ⟨some 0, .assign (.tmp 25), none⟩]) (.skip)))) (.seq (.reg []
  [⟨some 26, .move (.tmp 0), none⟩,
  ⟨some 4, .assign (.tmp 26), none⟩]) (.ret))))
theorem ls41 : Tryd.f41.body.map (strip Tryd.prog impCodC) = some lc41 := by kernel_rfl
theorem lcall41 {args : List AV} (hargs : args.length ≤ 27) {H0 : AHeap} (lo : Nat) (hlo : H0.length ≤ lo) {r0 : AV} {H0' : AHeap}
    (h : lavc Tryd.prog glob lc41 (args ++ List.replicate (27 - args.length) (.v undef)) H0 fun e t H => (e = .normal ∨ e = .ret) ∧ aret Tryd.prog t H [Go.ResultVar.tmp 4] fun r => Fin lo H r r0 H0') :
    ACall Tryd.prog glob (H0.length == 0) 41 args H0 r0 H0' := LCall' ctx Tryd.func41 (by kernel_rfl) ls41 (by kernel_rfl) (by kernel_rfl) hargs lo hlo h
/-- (escutcheon/page.Value).Get -/
def lc44 : LCode := .seq (.reg []
  [⟨some 2, .box 26 (.tmp 0), none⟩,
  ⟨some 4, .alloc 26, none⟩,
  ⟨some 5, .assign (.const (.bool false)), none⟩]) (.seq (.reg []
  [⟨some 7, .fieldAddr 26 (.tmp 2) 2, none⟩,
  ⟨some 8, .load 23 (.tmp 7), none⟩,
  ⟨some 9, .move (.tmp 1), none⟩,
  ⟨some 10, .call { callee := .value (.func 58), args := #[.tmp 8, .tmp 9], argTypes := #[23, 9] }, none⟩,
  ⟨some 6, .assign (.tmp 10), none⟩]) (.seq (.seq (.reg []
  [⟨some 11, .fieldAddr 26 (.tmp 2) 0, none⟩,
  ⟨some 12, .load 22 (.tmp 11), none⟩,
  ⟨some 13, .binOp .neq 22 (.tmp 12) (.const (.int .i64 6)) 22, none⟩,
  ⟨some 14, .move (.tmp 13), none⟩,
  ⟨some 15, .move (.tmp 6), (some (14, false))⟩,
  ⟨some 16, .binOp .lss 3 (.tmp 15) (.const (.int .i64 0)) 3, (some (14, false))⟩,
  ⟨some 17, .pick (.tmp 14) (.const (.bool true)) (.tmp 16), none⟩,
  ⟨some 18, .move (.tmp 17), none⟩,
  ⟨some 19, .move (.tmp 6), (some (18, false))⟩,
  ⟨some 20, .fieldAddr 26 (.tmp 2) 3, (some (18, false))⟩,
  ⟨some 21, .load 24 (.tmp 20), (some (18, false))⟩,
  ⟨some 22, .call { callee := .builtin .len, args := #[.tmp 21], argTypes := #[24] }, (some (18, false))⟩,
  ⟨some 23, .binOp .geq 3 (.tmp 19) (.tmp 22) 3, (some (18, false))⟩,
  ⟨some 24, .pick (.tmp 18) (.const (.bool true)) (.tmp 23), none⟩]) (.cond (.tmp 24) (.seq (.reg []
  [⟨some 25, .build 26 #[], none⟩,
  ⟨none, .store 26 (.tmp 4) (.tmp 25), none⟩,
  ⟨some 5, .assign (.const (.bool false)), none⟩]) (.ret)) (.skip))) (.seq (.reg []
  [⟨some 26, .fieldAddr 26 (.tmp 2) 3, none⟩,
  ⟨some 27, .load 24 (.tmp 26), none⟩,
  ⟨some 28, .move (.tmp 6), none⟩,
  ⟨some 29, .indexAddr 24 (.tmp 27) (.tmp 28), none⟩,
  ⟨some 30, .load 26 (.tmp 29), none⟩,
  ⟨none, .store 26 (.tmp 4) (.tmp 30), none⟩,
  ⟨some 5, .assign (.const (.bool true)), none⟩]) (.ret))))
theorem ls44 : Tryd.f44.body.map (strip Tryd.prog impCodC) = some lc44 := by kernel_rfl
theorem lcall44 {args : List AV} (hargs : args.length ≤ 31) {H0 : AHeap} (lo : Nat) (hlo : H0.length ≤ lo) {r0 : AV} {H0' : AHeap}
    (h : lavc Tryd.prog glob lc44 (args ++ List.replicate (31 - args.length) (.v undef)) H0 fun e t H => (e = .normal ∨ e = .ret) ∧ aret Tryd.prog t H [Go.ResultVar.cell 4 26, Go.ResultVar.tmp 5] fun r => Fin lo H r r0 H0') :
    ACall Tryd.prog glob (H0.length == 0) 44 args H0 r0 H0' := LCall' ctx Tryd.func44 (by kernel_rfl) ls44 (by kernel_rfl) (by kernel_rfl) hargs lo hlo h
/-- unicode/utf8.ValidString -/
def lc54 : LCode := .seq (.reg []
  [⟨some 2, .assign (.const (.bool false)), none⟩]) (.seq (.block 0 (.loop (.seq (.seq (.reg []
  [⟨some 7, .move (.tmp 0), none⟩,
  ⟨some 8, .call { callee := .builtin .len, args := #[.tmp 7], argTypes := #[9] }, none⟩,
  ⟨some 9, .binOp .gtr 3 (.tmp 8) (.const (.int .i64 0)) 3, none⟩]) (.cond (.tmp 9) (.skip) (.exit 0))) (.block 1 (.seq (.reg []
  [⟨some 10, .move (.tmp 0), none⟩,
  ⟨some 11, .index 9 (.tmp 10) (.const (.int .i64 0)), none⟩,
  ⟨some 3, .assign (.tmp 11), none⟩]) (.seq (.seq (.reg []
  [⟨some 12, .move (.tmp 3), none⟩,
  ⟨some 13, .binOp .lss 5 (.tmp 12) (.const (.int .u8 128)) 5, none⟩]) (.cond (.tmp 13) (.seq (.reg []
  [⟨some 14, .move (.tmp 0), none⟩,
  ⟨some 15, .slice 9 (.tmp 14) (some (.const (.int .i64 1))) none none, none⟩,
  ⟨some 0, .assign (.tmp 15), none⟩]) (.seq (.seq (.reg []
  [⟨some 16, .move (.tmp 0), none⟩,
  ⟨some 17, .call { callee := .builtin .len, args := #[.tmp 16], argTypes := #[9] }, none⟩,
  ⟨some 18, .binOp .gtr 3 (.tmp 17) (.const (.int .i64 8)) 3, none⟩,
  ⟨some 19, .move (.tmp 18), none⟩,
  ⟨some 20, .move (.tmp 0), (some (19, true))⟩,
  ⟨some 21, .call { callee := .value (.func 69), args := #[.tmp 20], argTypes := #[9] }, (some (19, true))⟩,
  ⟨some 22, .binOp .and 12 (.tmp 21) (.const (.int .u64 9259542123273814144)) 12, (some (19, true))⟩,
  ⟨some 23, .binOp .eql 12 (.tmp 22) (.const (.int .u64 0)) 12, (some (19, true))⟩,
  ⟨some 24, .pick (.tmp 19) (.tmp 23) (.const (.bool false)), none⟩]) (.cond (.tmp 24) (.seq (.reg []
  [⟨some 25, .move (.tmp 0), none⟩,
  ⟨some 26, .slice 9 (.tmp 25) (some (.const (.int .i64 8))) none none, none⟩,
  ⟨some 0, .assign (.tmp 26), none⟩]) (.seq (.reg [⟨some 27, .move (.tmp 0), none⟩,
  ⟨some 28, .call { callee := .builtin .len, args := #[.tmp 27], argTypes := #[9] }, none⟩,
  ⟨some 29, .binOp .gtr 3 (.tmp 28) (.const (.int .i64 16)) 3, none⟩,
  ⟨some 30, .move (.tmp 29), none⟩,
  ⟨some 31, .move (.tmp 0), (some (30, true))⟩,
  ⟨some 32, .call { callee := .value (.func 69), args := #[.tmp 31], argTypes := #[9] }, (some (30, true))⟩,
  ⟨some 33, .move (.tmp 0), (some (30, true))⟩,
  ⟨some 34, .slice 9 (.tmp 33) (some (.const (.int .i64 8))) none none, (some (30, true))⟩,
  ⟨some 35, .call { callee := .value (.func 69), args := #[.tmp 34], argTypes := #[9] }, (some (30, true))⟩,
  ⟨some 36, .binOp .or 12 (.tmp 32) (.tmp 35) 12, (some (30, true))⟩,
  ⟨some 37, .binOp .and 12 (.tmp 36) (.const (.int .u64 9259542123273814144)) 12, (some (30, true))⟩,
  ⟨some 38, .binOp .eql 12 (.tmp 37) (.const (.int .u64 0)) 12, (some (30, true))⟩,
  ⟨some 39, .pick (.tmp 30) (.tmp 38) (.const (.bool false)), none⟩]
  []) (.cond (.tmp 39) (.seq (.reg []
  [⟨some 40, .move (.tmp 0), none⟩,
  ⟨some 41, .slice 9 (.tmp 40) (some (.const (.int .i64 16))) none none, none⟩,
  ⟨some 0, .assign (.tmp 41), none⟩]) (.block 2 (.loop (.seq (.seq (.reg [⟨some 42, .move (.tmp 0), none⟩,
  ⟨some 43, .call { callee := .builtin .len, args := #[.tmp 42], argTypes := #[9] }, none⟩,
  ⟨some 44, .binOp .gtr 3 (.tmp 43) (.const (.int .i64 32)) 3, none⟩,
  ⟨some 45, .move (.tmp 44), none⟩,
  ⟨some 46, .move (.tmp 0), (some (45, true))⟩,
  ⟨some 47, .call { callee := .value (.func 69), args := #[.tmp 46], argTypes := #[9] }, (some (45, true))⟩,
  ⟨some 48, .move (.tmp 0), (some (45, true))⟩,
  ⟨some 49, .slice 9 (.tmp 48) (some (.const (.int .i64 8))) none none, (some (45, true))⟩,
  ⟨some 50, .call { callee := .value (.func 69), args := #[.tmp 49], argTypes := #[9] }, (some (45, true))⟩,
  ⟨some 51, .binOp .or 12 (.tmp 47) (.tmp 50) 12, (some (45, true))⟩,
  ⟨some 52, .move (.tmp 0), (some (45, true))⟩,
  ⟨some 53, .slice 9 (.tmp 52) (some (.const (.int .i64 16))) none none, (some (45, true))⟩,
  ⟨some 54, .call { callee := .value (.func 69), args := #[.tmp 53], argTypes := #[9] }, (some (45, true))⟩,
  ⟨some 55, .move (.tmp 0), (some (45, true))⟩,
  ⟨some 56, .slice 9 (.tmp 55) (some (.const (.int .i64 24))) none none, (some (45, true))⟩,
  ⟨some 57, .call { callee := .value (.func 69), args := #[.tmp 56], argTypes := #[9] }, (some (45, true))⟩,
  ⟨some 58, .binOp .or 12 (.tmp 54) (.tmp 57) 12, (some (45, true))⟩,
  ⟨some 59, .binOp .or 12 (.tmp 51) (.tmp 58) 12, (some (45, true))⟩,
  ⟨some 60, .binOp .and 12 (.tmp 59) (.const (.int .u64 9259542123273814144)) 12, (some (45, true))⟩,
  ⟨some 61, .binOp .eql 12 (.tmp 60) (.const (.int .u64 0)) 12, (some (45, true))⟩,
  ⟨some 62, .pick (.tmp 45) (.tmp 61) (.const (.bool false)), none⟩]
  []) (.cond (.tmp 62) (.skip) (.exit 2))) (.block 3 (.reg []
  [⟨some 63, .move (.tmp 0), none⟩,
  ⟨some 64, .slice 9 (.tmp 63) (some (.const (.int .i64 32))) none none, none⟩,
  ⟨some 0, .assign (.tmp 64), none⟩])))))) (.skip)))) (.skip))) (.exit 1))) (.skip))) (.seq (.reg []
  [⟨some 65, .move (.tmp 3), none⟩,
  ⟨some 66, .indexAddr 115 (.global 1) (.tmp 65), none⟩,
  ⟨some 67, .load 5 (.tmp 66), none⟩,
  ⟨some 4, .assign (.tmp 67), none⟩]) (.seq (.reg []
  [⟨some 68, .move (.tmp 4), none⟩,
  ⟨some 69, .binOp .and 5 (.tmp 68) (.const (.int .u8 7)) 5, none⟩,
  ⟨some 70, .convert 5 3 (.tmp 69), none⟩,
  ⟨some 5, .assign (.tmp 70), none⟩]) (.seq (.reg []
  [⟨some 71, .move (.tmp 4), none⟩,
  ⟨some 72, .binOp .shr 5 (.tmp 71) (.const (.int .u64 4)) 97, none⟩,
  ⟨some 73, .indexAddr 118 (.global 2) (.tmp 72), none⟩,
  ⟨some 74, .load 117 (.tmp 73), none⟩,
  ⟨some 6, .alloc 117, none⟩,
  ⟨none, .store 117 (.tmp 6) (.tmp 74), none⟩]) (.seq (.reg []
  [⟨some 75, .move (.tmp 5), none⟩]) (.block 4 (.seq (.reg []
  [⟨some 77, .binOp .eql 3 (.tmp 75) (.const (.int .i64 2)) 3, none⟩,
  ⟨some 76, .assign (.tmp 77), none⟩]) (.cond (.tmp 76) (.seq (.seq (.reg [⟨some 78, .move (.tmp 0), none⟩,
  ⟨some 79, .call { callee := .builtin .len, args := #[.tmp 78], argTypes := #[9] }, none⟩,
  ⟨some 80, .binOp .lss 3 (.tmp 79) (.const (.int .i64 2)) 3, none⟩,
  ⟨some 81, .move (.tmp 80), none⟩,
  ⟨some 82, .move (.tmp 0), (some (81, false))⟩,
  ⟨some 83, .index 9 (.tmp 82) (.const (.int .i64 1)), (some (81, false))⟩,
  ⟨some 84, .fieldAddr 117 (.tmp 6) 0, (some (81, false))⟩,
  ⟨some 85, .load 5 (.tmp 84), (some (81, false))⟩,
  ⟨some 86, .binOp .lss 5 (.tmp 83) (.tmp 85) 5, (some (81, false))⟩,
  ⟨some 87, .pick (.tmp 81) (.const (.bool true)) (.tmp 86), none⟩,
  ⟨some 88, .move (.tmp 87), none⟩,
  ⟨some 89, .fieldAddr 117 (.tmp 6) 1, (some (88, false))⟩,
  ⟨some 90, .load 5 (.tmp 89), (some (88, false))⟩,
  ⟨some 91, .move (.tmp 0), (some (88, false))⟩,
  ⟨some 92, .index 9 (.tmp 91) (.const (.int .i64 1)), (some (88, false))⟩,
  ⟨some 93, .binOp .lss 5 (.tmp 90) (.tmp 92) 5, (some (88, false))⟩,
  ⟨some 94, .pick (.tmp 88) (.const (.bool true)) (.tmp 93), none⟩]
  []) (.cond (.tmp 94) (.seq (.reg []
  [⟨some 2, .assign (.const (.bool false)), none⟩]) (.ret)) (.skip))) (.reg []
  [⟨some 95, .move (.tmp 0), none⟩,
  ⟨some 96, .slice 9 (.tmp 95) (some (.const (.int .i64 2))) none none, none⟩,
  ⟨some 0, .assign (.tmp 96), none⟩])) (.seq (.reg []
  [⟨some 98, .binOp .eql 3 (.tmp 75) (.const (.int .i64 3)) 3, none⟩,
  ⟨some 97, .assign (.tmp 98), none⟩]) (.cond (.tmp 97) (.seq (.seq (.reg [⟨some 99, .move (.tmp 0), none⟩,
  ⟨some 100, .call { callee := .builtin .len, args := #[.tmp 99], argTypes := #[9] }, none⟩,
  ⟨some 101, .binOp .lss 3 (.tmp 100) (.const (.int .i64 3)) 3, none⟩,
  ⟨some 102, .move (.tmp 101), none⟩,
  ⟨some 103, .move (.tmp 0), (some (102, false))⟩,
  ⟨some 104, .index 9 (.tmp 103) (.const (.int .i64 1)), (some (102, false))⟩,
  ⟨some 105, .fieldAddr 117 (.tmp 6) 0, (some (102, false))⟩,
  ⟨some 106, .load 5 (.tmp 105), (some (102, false))⟩,
  ⟨some 107, .binOp .lss 5 (.tmp 104) (.tmp 106) 5, (some (102, false))⟩,
  ⟨some 108, .pick (.tmp 102) (.const (.bool true)) (.tmp 107), none⟩,
  ⟨some 109, .move (.tmp 108), none⟩,
  ⟨some 110, .fieldAddr 117 (.tmp 6) 1, (some (109, false))⟩,
  ⟨some 111, .load 5 (.tmp 110), (some (109, false))⟩,
  ⟨some 112, .move (.tmp 0), (some (109, false))⟩,
  ⟨some 113, .index 9 (.tmp 112) (.const (.int .i64 1)), (some (109, false))⟩,
  ⟨some 114, .binOp .lss 5 (.tmp 111) (.tmp 113) 5, (some (109, false))⟩,
  ⟨some 115, .pick (.tmp 109) (.const (.bool true)) (.tmp 114), none⟩,
  ⟨some 116, .move (.tmp 115), none⟩,
  ⟨some 117, .move (.tmp 0), (some (116, false))⟩,
  ⟨some 118, .index 9 (.tmp 117) (.const (.int .i64 2)), (some (116, false))⟩,
  ⟨some 119, .binOp .lss 5 (.tmp 118) (.const (.int .u8 128)) 5, (some (116, false))⟩,
  ⟨some 120, .pick (.tmp 116) (.const (.bool true)) (.tmp 119), none⟩,
  ⟨some 121, .move (.tmp 120), none⟩,
  ⟨some 122, .move (.tmp 0), (some (121, false))⟩,
  ⟨some 123, .index 9 (.tmp 122) (.const (.int .i64 2)), (some (121, false))⟩,
  ⟨some 124, .binOp .lss 5 (.const (.int .u8 191)) (.tmp 123) 5, (some (121, false))⟩,
  ⟨some 125, .pick (.tmp 121) (.const (.bool true)) (.tmp 124), none⟩]
  []) (.cond (.tmp 125) (.seq (.reg []
  [⟨some 2, .assign (.const (.bool false)), none⟩]) (.ret)) (.skip))) (.reg []
  [⟨some 126, .move (.tmp 0), none⟩,
  ⟨some 127, .slice 9 (.tmp 126) (some (.const (.int .i64 3))) none none, none⟩,
  ⟨some 0, .assign (.tmp 127), none⟩])) (.seq (.reg []
  [⟨some 129, .binOp .eql 3 (.tmp 75) (.const (.int .i64 4)) 3, none⟩,
  ⟨some 128, .assign (.tmp 129), none⟩]) (.cond (.tmp 128) (.seq (.seq (.reg [⟨some 130, .move (.tmp 0), none⟩,
  ⟨some 131, .call { callee := .builtin .len, args := #[.tmp 130], argTypes := #[9] }, none⟩,
  ⟨some 132, .binOp .lss 3 (.tmp 131) (.const (.int .i64 4)) 3, none⟩,
  ⟨some 133, .move (.tmp 132), none⟩,
  ⟨some 134, .move (.tmp 0), (some (133, false))⟩,
  ⟨some 135, .index 9 (.tmp 134) (.const (.int .i64 1)), (some (133, false))⟩,
  ⟨some 136, .fieldAddr 117 (.tmp 6) 0, (some (133, false))⟩,
  ⟨some 137, .load 5 (.tmp 136), (some (133, false))⟩,
  ⟨some 138, .binOp .lss 5 (.tmp 135) (.tmp 137) 5, (some (133, false))⟩,
  ⟨some 139, .pick (.tmp 133) (.const (.bool true)) (.tmp 138), none⟩,
  ⟨some 140, .move (.tmp 139), none⟩,
  ⟨some 141, .fieldAddr 117 (.tmp 6) 1, (some (140, false))⟩,
  ⟨some 142, .load 5 (.tmp 141), (some (140, false))⟩,
  ⟨some 143, .move (.tmp 0), (some (140, false))⟩,
  ⟨some 144, .index 9 (.tmp 143) (.const (.int .i64 1)), (some (140, false))⟩,
  ⟨some 145, .binOp .lss 5 (.tmp 142) (.tmp 144) 5, (some (140, false))⟩,
  ⟨some 146, .pick (.tmp 140) (.const (.bool true)) (.tmp 145), none⟩,
  ⟨some 147, .move (.tmp 146), none⟩,
  ⟨some 148, .move (.tmp 0), (some (147, false))⟩,
  ⟨some 149, .index 9 (.tmp 148) (.const (.int .i64 2)), (some (147, false))⟩,
  ⟨some 150, .binOp .lss 5 (.tmp 149) (.const (.int .u8 128)) 5, (some (147, false))⟩,
  ⟨some 151, .pick (.tmp 147) (.const (.bool true)) (.tmp 150), none⟩,
  ⟨some 152, .move (.tmp 151), none⟩,
  ⟨some 153, .move (.tmp 0), (some (152, false))⟩,
  ⟨some 154, .index 9 (.tmp 153) (.const (.int .i64 2)), (some (152, false))⟩,
  ⟨some 155, .binOp .lss 5 (.const (.int .u8 191)) (.tmp 154) 5, (some (152, false))⟩,
  ⟨some 156, .pick (.tmp 152) (.const (.bool true)) (.tmp 155), none⟩,
  ⟨some 157, .move (.tmp 156), none⟩,
  ⟨some 158, .move (.tmp 0), (some (157, false))⟩,
  ⟨some 159, .index 9 (.tmp 158) (.const (.int .i64 3)), (some (157, false))⟩,
  ⟨some 160, .binOp .lss 5 (.tmp 159) (.const (.int .u8 128)) 5, (some (157, false))⟩,
  ⟨some 161, .pick (.tmp 157) (.const (.bool true)) (.tmp 160), none⟩,
  ⟨some 162, .move (.tmp 161), none⟩,
  ⟨some 163, .move (.tmp 0), (some (162, false))⟩,
  ⟨some 164, .index 9 (.tmp 163) (.const (.int .i64 3)), (some (162, false))⟩,
  ⟨some 165, .binOp .lss 5 (.const (.int .u8 191)) (.tmp 164) 5, (some (162, false))⟩,
  ⟨some 166, .pick (.tmp 162) (.const (.bool true)) (.tmp 165), none⟩]
  []) (.cond (.tmp 166) (.seq (.reg []
  [⟨some 2, .assign (.const (.bool false)), none⟩]) (.ret)) (.skip))) (.reg []
  [⟨some 167, .move (.tmp 0), none⟩,
  ⟨some 168, .slice 9 (.tmp 167) (some (.const (.int .i64 4))) none none, none⟩,
  ⟨some 0, .assign (.tmp 168), none⟩])) (.seq (.reg []
  [⟨some 2, .assign (.const (.bool false)), none⟩]) (.ret))))))))))))))))))) (.seq (.reg []
  [⟨some 2, .assign (.const (.bool true)), none⟩]) (.ret)))
def ms54_0 : List Nat := [0, 1, 2, 3, 4, 5, 6, 7, 8, 9, 10, 11, 12, 13, 14, 15, 16, 17, 18, 19, 20, 21, 22, 23, 24, 25, 26, 27, 28, 29, 30, 31, 32, 33, 34, 35, 36, 37, 38, 39, 40, 41, 42, 43, 44, 45, 46, 47, 48, 49, 50, 51, 52, 53, 54, 55, 56, 57, 58, 59, 60, 61, 62, 63, 64, 65, 66, 67, 68, 69, 70, 71, 72, 73, 74, 75, 76, 77, 78, 79, 80, 81, 82, 83, 84, 85, 86, 87, 88, 89, 90, 91, 92, 93, 94, 95, 96, 97, 98, 99, 100, 101, 102, 103, 104, 105, 106, 107, 108, 109, 110, 111, 112, 113, 114, 115, 116, 117, 118, 119, 120, 121, 122, 123, 124, 125, 126, 127, 128, 129, 130, 131, 132, 133, 134, 135, 136, 137, 138, 139, 140, 141, 142, 143, 144, 145, 146, 147, 148, 149, 150, 151, 152, 153, 154, 155, 156, 157, 158, 159, 160, 161, 162, 163, 164, 165, 166, 167, 168]
def ms54_1 : List Nat := [0, 1, 42, 43, 44, 45, 46, 47, 48, 49, 50, 51, 52, 53, 54, 55, 56, 57, 58, 59, 60, 61, 62, 63, 64]
theorem ls54 : Tryd.f54.body.map (strip Tryd.prog impCodC) = some lc54 := by kernel_rfl
theorem lcall54 {args : List AV} (hargs : args.length ≤ 169) {H0 : AHeap} (lo : Nat) (hlo : H0.length ≤ lo) {r0 : AV} {H0' : AHeap}
    (h : lavc Tryd.prog glob lc54 (args ++ List.replicate (169 - args.length) (.v undef)) H0 fun e t H => (e = .normal ∨ e = .ret) ∧ aret Tryd.prog t H [Go.ResultVar.tmp 2] fun r => Fin lo H r r0 H0') :
    ACall Tryd.prog glob (H0.length == 0) 54 args H0 r0 H0' := LCall' ctx Tryd.func54 (by kernel_rfl) ls54 (by kernel_rfl) (by kernel_rfl) hargs lo hlo h
/-- slices.ContainsFunc[[]string,string] -/
def lc55 : LCode := .seq (.reg []
  [⟨some 4, .assign (.const (.bool false)), none⟩]) (.seq (.reg []
  [⟨some 5, .move (.tmp 0), none⟩,
  ⟨some 6, .move (.tmp 1), none⟩,
  ⟨some 7, .call { callee := .value (.func 70), args := #[.tmp 5, .tmp 6], argTypes := #[23, 103] }, none⟩,
  ⟨some 8, .binOp .geq 3 (.tmp 7) (.const (.int .i64 0)) 3, none⟩,
  ⟨some 4, .assign (.tmp 8), none⟩]) (.ret))
theorem ls55 : Tryd.f55.body.map (strip Tryd.prog impCodC) = some lc55 := by kernel_rfl
theorem lcall55 {args : List AV} (hargs : args.length ≤ 9) {H0 : AHeap} (lo : Nat) (hlo : H0.length ≤ lo) {r0 : AV} {H0' : AHeap}
    (h : lavc Tryd.prog glob lc55 (args ++ List.replicate (9 - args.length) (.v undef)) H0 fun e t H => (e = .normal ∨ e = .ret) ∧ aret Tryd.prog t H [Go.ResultVar.tmp 4] fun r => Fin lo H r r0 H0') :
    ACall Tryd.prog glob (H0.length == 0) 55 args H0 r0 H0' := LCall' ctx Tryd.func55 (by kernel_rfl) ls55 (by kernel_rfl) (by kernel_rfl) hargs lo hlo h
/-- (escutcheon/page.Value).form$1 -/
def lc56 : LCode := .seq (.reg []
  [⟨some 2, .assign (.const (.bool false)), none⟩]) (.seq (.reg []
  [⟨some 3, .move (.tmp 0), none⟩,
  ⟨some 4, .call { callee := .value (.func 54), args := #[.tmp 3], argTypes := #[9] }, none⟩,
  ⟨some 5, .unOp .not 4 (.tmp 4), none⟩,
  ⟨some 2, .assign (.tmp 5), none⟩]) (.ret))
theorem ls56 : Tryd.f56.body.map (strip Tryd.prog impCodC) = some lc56 := by kernel_rfl
theorem lcall56 {args : List AV} (hargs : args.length ≤ 6) {H0 : AHeap} (lo : Nat) (hlo : H0.length ≤ lo) {r0 : AV} {H0' : AHeap}
    (h : lavc Tryd.prog glob lc56 (args ++ List.replicate (6 - args.length) (.v undef)) H0 fun e t H => (e = .normal ∨ e = .ret) ∧ aret Tryd.prog t H [Go.ResultVar.tmp 2] fun r => Fin lo H r r0 H0') :
    ACall Tryd.prog glob (H0.length == 0) 56 args H0 r0 H0' := LCall' ctx Tryd.func56 (by kernel_rfl) ls56 (by kernel_rfl) (by kernel_rfl) hargs lo hlo h
/-- slices.Contains[[]string,string] -/
def lc57 : LCode := .seq (.reg []
  [⟨some 4, .assign (.const (.bool false)), none⟩]) (.seq (.reg []
  [⟨some 5, .move (.tmp 0), none⟩,
  ⟨some 6, .move (.tmp 1), none⟩,
  ⟨some 7, .call { callee := .value (.func 58), args := #[.tmp 5, .tmp 6], argTypes := #[23, 9] }, none⟩,
  ⟨some 8, .binOp .geq 3 (.tmp 7) (.const (.int .i64 0)) 3, none⟩,
  ⟨some 4, .assign (.tmp 8), none⟩]) (.ret))
theorem ls57 : Tryd.f57.body.map (strip Tryd.prog impCodC) = some lc57 := by kernel_rfl
theorem lcall57 {args : List AV} (hargs : args.length ≤ 9) {H0 : AHeap} (lo : Nat) (hlo : H0.length ≤ lo) {r0 : AV} {H0' : AHeap}
    (h : lavc Tryd.prog glob lc57 (args ++ List.replicate (9 - args.length) (.v undef)) H0 fun e t H => (e = .normal ∨ e = .ret) ∧ aret Tryd.prog t H [Go.ResultVar.tmp 4] fun r => Fin lo H r r0 H0') :
    ACall Tryd.prog glob (H0.length == 0) 57 args H0 r0 H0' := LCall' ctx Tryd.func57 (by kernel_rfl) ls57 (by kernel_rfl) (by kernel_rfl) hargs lo hlo h
/-- slices.Index[[]string,string] -/
def lc58 : LCode := .seq (.reg []
  [⟨some 4, .assign (.const (.int .i64 0)), none⟩]) (.seq (.seq (.reg []
  [⟨some 6, .move (.tmp 0), none⟩,
  ⟨some 7, .call { callee := .builtin .len, args := #[.tmp 6], argTypes := #[23] }, none⟩,
  ⟨some 8, .move (.const (.int .i64 0)), none⟩]) (.block 0 (.loop (.seq (.reg []
  [⟨some 9, .binOp .lss 3 (.tmp 8) (.tmp 7) 3, none⟩]) (.seq (.cond (.tmp 9) (.skip) (.exit 0)) (.seq (.block 1 (.seq (.reg []
  [⟨some 10, .move (.tmp 8), none⟩,
  ⟨some 5, .assign (.tmp 10), none⟩]) (.seq (.reg []
  [⟨some 11, .move (.tmp 1), none⟩,
  ⟨some 12, .move (.tmp 0), none⟩,
  ⟨some 13, .move (.tmp 5), none⟩,
  ⟨some 14, .indexAddr 23 (.tmp 12) (.tmp 13), none⟩,
  ⟨some 15, .load 9 (.tmp 14), none⟩,
  ⟨some 16, .binOp .eql 9 (.tmp 11) (.tmp 15) 9, none⟩]) (.cond (.tmp 16) (.seq (.reg []
  [⟨some 17, .move (.tmp 5), none⟩,
  ⟨some 4, .assign (.tmp 17), none⟩]) (.ret)) (.skip))))) (.reg []
  [⟨some 18, .binOp .add 3 (.tmp 8) (.const (.int .i64 1)) 3, none⟩,
  ⟨some 8, .move (.tmp 18), none⟩]))))))) (.seq (.reg []
  [⟨some 4, .assign (.const (.int .i64 (-1))), none⟩]) (.ret)))
def ms58_0 : List Nat := [2, 3, 4, 5, 6, 8, 9, 10, 11, 12, 13, 14, 15, 16, 17, 18]
theorem ls58 : Tryd.f58.body.map (strip Tryd.prog impCodC) = some lc58 := by kernel_rfl
theorem lcall58 {args : List AV} (hargs : args.length ≤ 19) {H0 : AHeap} (lo : Nat) (hlo : H0.length ≤ lo) {r0 : AV} {H0' : AHeap}
    (h : lavc Tryd.prog glob lc58 (args ++ List.replicate (19 - args.length) (.v undef)) H0 fun e t H => (e = .normal ∨ e = .ret) ∧ aret Tryd.prog t H [Go.ResultVar.tmp 4] fun r => Fin lo H r r0 H0') :
    ACall Tryd.prog glob (H0.length == 0) 58 args H0 r0 H0' := LCall' ctx Tryd.func58 (by kernel_rfl) ls58 (by kernel_rfl) (by kernel_rfl) hargs lo hlo h
/-- unicode/utf8.word[string] -/
def lc69 : LCode := .seq (.reg []
  [⟨some 2, .assign (.const (.int .u64 0)), none⟩]) (.seq (.cond (.const (.bool false)) (.seq (.reg [⟨some 3, .move (.tmp 0), none⟩,
  ⟨some 4, .index 9 (.tmp 3) (.const (.int .i64 0)), none⟩,
  ⟨some 5, .convert 5 12 (.tmp 4), none⟩,
  ⟨some 6, .move (.tmp 0), none⟩,
  ⟨some 7, .index 9 (.tmp 6) (.const (.int .i64 1)), none⟩,
  ⟨some 8, .convert 5 12 (.tmp 7), none⟩,
  ⟨some 9, .binOp .shl 12 (.tmp 8) (.const (.int .u64 8)) 97, none⟩,
  ⟨some 10, .binOp .or 12 (.tmp 5) (.tmp 9) 12, none⟩,
  ⟨some 11, .move (.tmp 0), none⟩,
  ⟨some 12, .index 9 (.tmp 11) (.const (.int .i64 2)), none⟩,
  ⟨some 13, .convert 5 12 (.tmp 12), none⟩,
  ⟨some 14, .binOp .shl 12 (.tmp 13) (.const (.int .u64 16)) 97, none⟩,
  ⟨some 15, .binOp .or 12 (.tmp 10) (.tmp 14) 12, none⟩,
  ⟨some 16, .move (.tmp 0), none⟩,
  ⟨some 17, .index 9 (.tmp 16) (.const (.int .i64 3)), none⟩,
  ⟨some 18, .convert 5 12 (.tmp 17), none⟩,
  ⟨some 19, .binOp .shl 12 (.tmp 18) (.const (.int .u64 24)) 97, none⟩,
  ⟨some 20, .binOp .or 12 (.tmp 15) (.tmp 19) 12, none⟩,
  ⟨some 2, .assign (.tmp 20), none⟩]
  []) (.ret)) (.skip)) (.seq (.reg [⟨some 21, .move (.tmp 0), none⟩,
  ⟨some 22, .index 9 (.tmp 21) (.const (.int .i64 0)), none⟩,
  ⟨some 23, .convert 5 111 (.tmp 22), none⟩,
  ⟨some 24, .move (.tmp 0), none⟩,
  ⟨some 25, .index 9 (.tmp 24) (.const (.int .i64 1)), none⟩,
  ⟨some 26, .convert 5 111 (.tmp 25), none⟩,
  ⟨some 27, .binOp .shl 111 (.tmp 26) (.const (.int .u64 8)) 97, none⟩,
  ⟨some 28, .binOp .or 111 (.tmp 23) (.tmp 27) 111, none⟩,
  ⟨some 29, .move (.tmp 0), none⟩,
  ⟨some 30, .index 9 (.tmp 29) (.const (.int .i64 2)), none⟩,
  ⟨some 31, .convert 5 111 (.tmp 30), none⟩,
  ⟨some 32, .binOp .shl 111 (.tmp 31) (.const (.int .u64 16)) 97, none⟩,
  ⟨some 33, .binOp .or 111 (.tmp 28) (.tmp 32) 111, none⟩,
  ⟨some 34, .move (.tmp 0), none⟩,
  ⟨some 35, .index 9 (.tmp 34) (.const (.int .i64 3)), none⟩,
  ⟨some 36, .convert 5 111 (.tmp 35), none⟩,
  ⟨some 37, .binOp .shl 111 (.tmp 36) (.const (.int .u64 24)) 97, none⟩,
  ⟨some 38, .binOp .or 111 (.tmp 33) (.tmp 37) 111, none⟩,
  ⟨some 39, .move (.tmp 0), none⟩,
  ⟨some 40, .index 9 (.tmp 39) (.const (.int .i64 4)), none⟩,
  ⟨some 41, .convert 5 111 (.tmp 40), none⟩,
  ⟨some 42, .binOp .shl 111 (.tmp 41) (.const (.int .u64 32)) 97, none⟩,
  ⟨some 43, .binOp .or 111 (.tmp 38) (.tmp 42) 111, none⟩,
  ⟨some 44, .move (.tmp 0), none⟩,
  ⟨some 45, .index 9 (.tmp 44) (.const (.int .i64 5)), none⟩,
  ⟨some 46, .convert 5 111 (.tmp 45), none⟩,
  ⟨some 47, .binOp .shl 111 (.tmp 46) (.const (.int .u64 40)) 97, none⟩,
  ⟨some 48, .binOp .or 111 (.tmp 43) (.tmp 47) 111, none⟩,
  ⟨some 49, .move (.tmp 0), none⟩,
  ⟨some 50, .index 9 (.tmp 49) (.const (.int .i64 6)), none⟩,
  ⟨some 51, .convert 5 111 (.tmp 50), none⟩,
  ⟨some 52, .binOp .shl 111 (.tmp 51) (.const (.int .u64 48)) 97, none⟩,
  ⟨some 53, .binOp .or 111 (.tmp 48) (.tmp 52) 111, none⟩,
  ⟨some 54, .move (.tmp 0), none⟩,
  ⟨some 55, .index 9 (.tmp 54) (.const (.int .i64 7)), none⟩,
  ⟨some 56, .convert 5 111 (.tmp 55), none⟩,
  ⟨some 57, .binOp .shl 111 (.tmp 56) (.const (.int .u64 56)) 97, none⟩,
  ⟨some 58, .binOp .or 111 (.tmp 53) (.tmp 57) 111, none⟩,
  ⟨some 2, .assign (.tmp 58), none⟩]
  []) (.ret)))
theorem ls69 : Tryd.f69.body.map (strip Tryd.prog impCodC) = some lc69 := by kernel_rfl
theorem lcall69 {args : List AV} (hargs : args.length ≤ 59) {H0 : AHeap} (lo : Nat) (hlo : H0.length ≤ lo) {r0 : AV} {H0' : AHeap}
    (h : lavc Tryd.prog glob lc69 (args ++ List.replicate (59 - args.length) (.v undef)) H0 fun e t H => (e = .normal ∨ e = .ret) ∧ aret Tryd.prog t H [Go.ResultVar.tmp 2] fun r => Fin lo H r r0 H0') :
    ACall Tryd.prog glob (H0.length == 0) 69 args H0 r0 H0' := LCall' ctx Tryd.func69 (by kernel_rfl) ls69 (by kernel_rfl) (by kernel_rfl) hargs lo hlo h
/-- slices.IndexFunc[[]string,string] -/
def lc70 : LCode := .seq (.reg []
  [⟨some 4, .assign (.const (.int .i64 0)), none⟩]) (.seq (.seq (.reg []
  [⟨some 6, .move (.tmp 0), none⟩,
  ⟨some 7, .call { callee := .builtin .len, args := #[.tmp 6], argTypes := #[23] }, none⟩,
  ⟨some 8, .move (.const (.int .i64 0)), none⟩]) (.block 0 (.loop (.seq (.reg []
  [⟨some 9, .binOp .lss 3 (.tmp 8) (.tmp 7) 3, none⟩]) (.seq (.cond (.tmp 9) (.skip) (.exit 0)) (.seq (.block 1 (.seq (.reg []
  [⟨some 10, .move (.tmp 8), none⟩,
  ⟨some 5, .assign (.tmp 10), none⟩]) (.seq (.reg []
  [⟨some 11, .move (.tmp 1), none⟩,
  ⟨some 12, .move (.tmp 0), none⟩,
  ⟨some 13, .move (.tmp 5), none⟩,
  ⟨some 14, .indexAddr 23 (.tmp 12) (.tmp 13), none⟩,
  ⟨some 15, .load 9 (.tmp 14), none⟩,
  ⟨some 16, .call { callee := .value (.tmp 11), args := #[.tmp 15], argTypes := #[9] }, none⟩]) (.cond (.tmp 16) (.seq (.reg []
  [⟨some 17, .move (.tmp 5), none⟩,
  ⟨some 4, .assign (.tmp 17), none⟩]) (.ret)) (.skip))))) (.reg []
  [⟨some 18, .binOp .add 3 (.tmp 8) (.const (.int .i64 1)) 3, none⟩,
  ⟨some 8, .move (.tmp 18), none⟩]))))))) (.seq (.reg []
  [⟨some 4, .assign (.const (.int .i64 (-1))), none⟩]) (.ret)))
def ms70_0 : List Nat := [2, 3, 4, 5, 6, 8, 9, 10, 11, 12, 13, 14, 15, 16, 17, 18]
theorem ls70 : Tryd.f70.body.map (strip Tryd.prog impCodC) = some lc70 := by kernel_rfl
theorem lcall70 {args : List AV} (hargs : args.length ≤ 19) {H0 : AHeap} (lo : Nat) (hlo : H0.length ≤ lo) {r0 : AV} {H0' : AHeap}
    (h : lavc Tryd.prog glob lc70 (args ++ List.replicate (19 - args.length) (.v undef)) H0 fun e t H => (e = .normal ∨ e = .ret) ∧ aret Tryd.prog t H [Go.ResultVar.tmp 4] fun r => Fin lo H r r0 H0') :
    ACall Tryd.prog glob (H0.length == 0) 70 args H0 r0 H0' := LCall' ctx Tryd.func70 (by kernel_rfl) ls70 (by kernel_rfl) (by kernel_rfl) hargs lo hlo h
/-- slices.Concat[[]string,string] -/
def lc25 : LCode := .seq (.reg []
  [⟨some 2, .assign (.const (.slice none 0 0)), none⟩]) (.seq (.reg []
  [⟨some 3, .assign (.const (.int .i64 0)), none⟩]) (.seq (.seq (.reg []
  [⟨some 9, .move (.tmp 0), none⟩,
  ⟨some 10, .call { callee := .builtin .len, args := #[.tmp 9], argTypes := #[88] }, none⟩,
  ⟨some 11, .move (.const (.int .i64 0)), none⟩]) (.block 0 (.loop (.seq (.reg []
  [⟨some 12, .binOp .lss 3 (.tmp 11) (.tmp 10) 3, none⟩]) (.seq (.cond (.tmp 12) (.skip) (.exit 0)) (.seq (.block 1 (.seq (.reg []
  [⟨some 13, .indexAddr 88 (.tmp 9) (.tmp 11), none⟩,
  ⟨some 14, .load 23 (.tmp 13), none⟩,
  ⟨some 5, .assign (.tmp 14), none⟩]) (.seq (.reg []
  [⟨some 15, .move (.tmp 3), none⟩,
  ⟨some 16, .move (.tmp 5), none⟩,
  ⟨some 17, .call { callee := .builtin .len, args := #[.tmp 16], argTypes := #[23] }, none⟩,
  ⟨some 18, .binOp .add 3 (.tmp 15) (.tmp 17) 3, none⟩,
  ⟨some 3, .assign (.tmp 18), none⟩]) (.seq (.reg []
  [⟨some 19, .move (.tmp 3), none⟩,
  ⟨some 20, .binOp .lss 3 (.tmp 19) (.const (.int .i64 0)) 3, none⟩]) (.cond (.tmp 20) (.reg []
  [⟨some 21, .makeInterface 9 (.const (.string { data := #[108, 101, 110, 32, 111, 117, 116, 32, 111, 102, 32, 114, 97, 110, 103, 101] })), none⟩,
  ⟨none, .panic (.tmp 21), none⟩]) (.skip)))))) (.reg []
  [⟨some 22, .binOp .add 3 (.tmp 11) (.const (.int .i64 1)) 3, none⟩,
  ⟨some 11, .move (.tmp 22), none⟩]))))))) (.seq (.reg []
  [⟨some 23, .move (.tmp 3), none⟩,
  ⟨some 24, .call { callee := .value (.func 41), args := #[.const (.slice none 0 0), .tmp 23], argTypes := #[23, 3] }, none⟩,
  ⟨some 6, .assign (.tmp 24), none⟩]) (.seq (.seq (.reg []
  [⟨some 25, .move (.tmp 0), none⟩,
  ⟨some 26, .call { callee := .builtin .len, args := #[.tmp 25], argTypes := #[88] }, none⟩,
  ⟨some 27, .move (.const (.int .i64 0)), none⟩]) (.block 2 (.loop (.seq (.reg []
  [⟨some 28, .binOp .lss 3 (.tmp 27) (.tmp 26) 3, none⟩]) (.seq (.cond (.tmp 28) (.skip) (.exit 2)) (.seq (.block 3 (.seq (.reg []
  [⟨some 29, .indexAddr 88 (.tmp 25) (.tmp 27), none⟩,
  ⟨some 30, .load 23 (.tmp 29), none⟩,
  ⟨some 8, .assign (.tmp 30), none⟩]) (.reg []
  [⟨some 31, .move (.tmp 6), none⟩,
  ⟨some 32, .move (.tmp 8), none⟩,
  ⟨some 33, .call { callee := .builtin .append, args := #[.tmp 31, .tmp 32], argTypes := #[23, 23] }, none⟩,
  ⟨some 6, .assign (.tmp 33), none⟩]))) (.reg []
  [⟨some 34, .binOp .add 3 (.tmp 27) (.const (.int .i64 1)) 3, none⟩,
  ⟨some 27, .move (.tmp 34), none⟩]))))))) (.seq (.reg []
  [⟨some 35, .move (.tmp 6), none⟩,
  ⟨some 2, .assign (.tmp 35), none⟩]) (.ret))))))
def ms25_0 : List Nat := [1, 3, 4, 5, 7, 11, 12, 13, 14, 15, 16, 17, 18, 19, 20, 21, 22]
def ms25_1 : List Nat := [0, 1, 3, 4, 5, 6, 7, 8, 9, 10, 11, 12, 13, 14, 15, 16, 17, 18, 19, 20, 21, 22, 23, 24, 27, 28, 29, 30, 31, 32, 33, 34]
theorem ls25 : Tryd.f25.body.map (strip Tryd.prog impCodC) = some lc25 := by kernel_rfl
theorem lcall25 {args : List AV} (hargs : args.length ≤ 36) {H0 : AHeap} (lo : Nat) (hlo : H0.length ≤ lo) {r0 : AV} {H0' : AHeap}
    (h : lavc Tryd.prog glob lc25 (args ++ List.replicate (36 - args.length) (.v undef)) H0 fun e t H => (e = .normal ∨ e = .ret) ∧ aret Tryd.prog t H [Go.ResultVar.tmp 2] fun r => Fin lo H r r0 H0') :
    ACall Tryd.prog glob (H0.length == 0) 25 args H0 r0 H0' := LCall' ctx Tryd.func25 (by kernel_rfl) ls25 (by kernel_rfl) (by kernel_rfl) hargs lo hlo h
end Go.Abs.S
namespace Go.Abs
set_option linter.unusedVariables false
variable {P : Program} {G : Glob} {t : List AV} {H : AHeap} {Q : APost}
/-- They meet behind the code that follows. -/
theorem lavc_join2 {a : LCode} (ms : List Nat) {X : Type} (I : X → Prop) (live : X → List (Nat × AV)) (hp : X → AHeap) {b c : LCode}
    (h1 : lavc P G a t H fun e t' H' => match e with
      | .normal => lavc P G b t' H' fun e t' H' => match e with
        | .normal => ∃ x, I x ∧ ALe t' (putAll (blank t ms) (live x)) ∧ H' = hp x
        | e => Q e t' H'
      | e => Q e t' H') (h2 : ∀ x, I x → lavc P G c (putAll (blank t ms) (live x)) (hp x) Q) : lavc P G a t H fun e t' H' => match e with
      | .normal => lavc P G (.seq b c) t' H' Q
      | e => Q e t' H' := lavc_mono h1 fun e t' H' h => by
  cases e with
  | normal =>
    refine lavc_seq (lavc_mono h fun e t' H' h => ?_)
    cases e with
    | normal =>
      obtain ⟨x, hx, hle, rfl⟩ := h
      exact lavc_weak (h2 x hx) hle
    | _ => exact h
  | _ => exact h
/-- They meet here. -/
theorem lavc_joinS {a b : LCode} (ms : List Nat) {X : Type} (I : X → Prop) (live : X → List (Nat × AV)) (hp : X → AHeap)
    (h1 : lavc P G a t H fun e t' H' => match e with
      | .normal => ∃ x, I x ∧ ALe t' (putAll (blank t ms) (live x)) ∧ H' = hp x
      | e => Q e t' H') (h2 : ∀ x, I x → lavc P G b (putAll (blank t ms) (live x)) (hp x) Q) : lavc P G (.seq a b) t H Q := lavc_seq (lavc_join ms I live hp h1 h2)
/-- Arguments that may be looked at in two ways. -/
def AvLs : List AV → List AV → Prop
  | [], [] => True
  | x :: xs, y :: ys => AvLe x y ∧ AvLs xs ys
  | _, _ => False
theorem AvLs.length : ∀ {xs ys : List AV}, AvLs xs ys → xs.length = ys.length
  | [], [], _ => rfl
  | x :: xs, y :: ys, h => by simp [AvLs.length h.2]
  | [], _ :: _, h => h.elim
  | _ :: _, [], h => h.elim
theorem AvLs.get : ∀ {xs ys : List AV}, AvLs xs ys → ∀ j, j < xs.length → AvLe (xs.getD j .any) (ys.getD j .any)
  | [], [], _, j, hj => by simp at hj
  | x :: xs, y :: ys, h, 0, _ => by simpa using h.1
  | x :: xs, y :: ys, h, j + 1, hj => by simpa using AvLs.get h.2 j (by simpa using hj)
  | [], _ :: _, h, _, _ => h.elim
  | _ :: _, [], h, _, _ => h.elim
theorem PCall.les {n : FuncId} {args args' : List AV} {r : AV} (h : PCall P G n args' r) (hl : AvLs args args') : PCall P G n args r := h.le hl.length hl.get
/-- Bytes as a text. -/
theorem str_list (l : List Int) : (strOf l).toList = l.map fun n => UInt8.ofNat n.toNat := by simp [strOf, ByteArray.toList_eq]
theorem u8_of (x : Int) (h : 0 ≤ x ∧ x ≤ 255) : ((UInt8.ofNat x.toNat).toNat : Int) = x := by
  rw [UInt8.toNat_ofNat']
  omega
theorem bytes_str {l : List Int} (h : ∀ x ∈ l, 0 ≤ x ∧ x ≤ 255) : bytesOf (strOf l) = l := by
  unfold bytesOf
  have : (strOf l).data.toList = l.map fun n => UInt8.ofNat n.toNat := by simp [strOf]
  rw [this, List.map_map]
  conv => rhs; rw [← List.map_id l]
  exact List.map_congr_left fun x hx => u8_of x (h x hx)
theorem str_bytes (s : ByteArray) : strOf (bytesOf s) = s := by
  refine WideShapes.bytes_inj ?_
  unfold strOf bytesOf
  simp only [List.map_map]
  conv => rhs; rw [← List.map_id s.data.toList]
  refine List.map_congr_left fun x _ => ?_
  simp
theorem str_inj {a b : List Int} (ha : ∀ x ∈ a, 0 ≤ x ∧ x ≤ 255) (hb : ∀ x ∈ b, 0 ≤ x ∧ x ≤ 255) (h : strOf a = strOf b) : a = b := by
  have := congrArg bytesOf h
  rwa [bytes_str ha, bytes_str hb] at this
theorem list_inj {s t : ByteArray} (h : s.toList = t.toList) : s = t := WideShapes.bytes_inj (by rwa [ByteArray.toList_eq, ByteArray.toList_eq] at h)
theorem str_eq {a b : List Int} (ha : ∀ x ∈ a, 0 ≤ x ∧ x ≤ 255) (hb : ∀ x ∈ b, 0 ≤ x ∧ x ≤ 255) : ((strOf a).toList == (strOf b).toList) = decide (a = b) := by
  rw [Bool.eq_iff_iff, beq_iff_eq, decide_eq_true_eq]
  exact ⟨fun h => str_inj ha hb (list_inj h), fun h => by rw [h]⟩
theorem str_size (l : List Int) : (strOf l).size = l.length := by
  show ((l.map fun n => UInt8.ofNat n.toNat).toArray).size = _
  simp
theorem bytes_length (s : ByteArray) : (bytesOf s).length = s.size := by
  simp only [bytesOf, List.length_map, Array.length_toList]
  rfl
theorem bytes_u8 (s : ByteArray) : ∀ x ∈ bytesOf s, 0 ≤ x ∧ x ≤ 255 := by
  intro x hx
  simp only [bytesOf, List.mem_map] at hx
  obtain ⟨b, _, rfl⟩ := hx
  have := b.toNat_lt
  omega
end Go.Abs
