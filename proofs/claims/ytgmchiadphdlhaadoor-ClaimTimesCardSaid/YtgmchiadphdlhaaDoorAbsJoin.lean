/- Ways that meet again further on. -/
import Derived.Test.YtgmchiadphdlhaaDoorAbsLaw
import Derived.Laws.Strings
import Derived.WideShapes
namespace Go.Abs
set_option linter.unusedVariables false
variable {P : Program} {G : Glob} {t : List AV} {H : AHeap} {Q : APost}
/-- They meet behind the code that follows. -/
theorem lavc_join2 {a : LCode} (ms : List Nat) {X : Type} (I : X → Prop) (live : X → List (Nat × AV)) (hp : X → AHeap) {b c : LCode}
    (h1 : lavc P G a t H fun e t' H' => match e with
      | .normal => lavc P G b t' H' fun e t' H' => match e with
        | .normal => ∃ x, I x ∧ ALe t' (putAll (blank t ms) (live x)) ∧ H' = hp x
        | e => Q e t' H'
      | e => Q e t' H') (h2 : ∀ x, I x → lavc P G c (putAll (blank t ms) (live x)) (hp x) Q) : lavc P G a t H fun e t' H' => match e with
      | .normal => lavc P G (.seq b c) t' H' Q
      | e => Q e t' H' := lavc_mono h1 fun e t' H' h => by
  cases e with
  | normal =>
    refine lavc_seq (lavc_mono h fun e t' H' h => ?_)
    cases e with
    | normal =>
      obtain ⟨x, hx, hle, rfl⟩ := h
      exact lavc_weak (h2 x hx) hle
    | _ => exact h
  | _ => exact h
/-- They meet here. -/
theorem lavc_joinS {a b : LCode} (ms : List Nat) {X : Type} (I : X → Prop) (live : X → List (Nat × AV)) (hp : X → AHeap)
    (h1 : lavc P G a t H fun e t' H' => match e with
      | .normal => ∃ x, I x ∧ ALe t' (putAll (blank t ms) (live x)) ∧ H' = hp x
      | e => Q e t' H') (h2 : ∀ x, I x → lavc P G b (putAll (blank t ms) (live x)) (hp x) Q) : lavc P G (.seq a b) t H Q := lavc_seq (lavc_join ms I live hp h1 h2)
/-- Arguments that may be looked at in two ways. -/
def AvLs : List AV → List AV → Prop
  | [], [] => True
  | x :: xs, y :: ys => AvLe x y ∧ AvLs xs ys
  | _, _ => False
theorem AvLs.length : ∀ {xs ys : List AV}, AvLs xs ys → xs.length = ys.length
  | [], [], _ => rfl
  | x :: xs, y :: ys, h => by simp [AvLs.length h.2]
  | [], _ :: _, h => h.elim
  | _ :: _, [], h => h.elim
theorem AvLs.get : ∀ {xs ys : List AV}, AvLs xs ys → ∀ j, j < xs.length → AvLe (xs.getD j .any) (ys.getD j .any)
  | [], [], _, j, hj => by simp at hj
  | x :: xs, y :: ys, h, 0, _ => by simpa using h.1
  | x :: xs, y :: ys, h, j + 1, hj => by simpa using AvLs.get h.2 j (by simpa using hj)
  | [], _ :: _, h, _, _ => h.elim
  | _ :: _, [], h, _, _ => h.elim
theorem PCall.les {n : FuncId} {args args' : List AV} {r : AV} (h : PCall P G n args' r) (hl : AvLs args args') : PCall P G n args r := h.le hl.length hl.get
/-- Bytes as a text. -/
theorem str_list (l : List Int) : (strOf l).toList = l.map fun n => UInt8.ofNat n.toNat := by simp [strOf, ByteArray.toList_eq]
theorem u8_of (x : Int) (h : 0 ≤ x ∧ x ≤ 255) : ((UInt8.ofNat x.toNat).toNat : Int) = x := by
  rw [UInt8.toNat_ofNat']
  omega
theorem bytes_str {l : List Int} (h : ∀ x ∈ l, 0 ≤ x ∧ x ≤ 255) : bytesOf (strOf l) = l := by
  unfold bytesOf
  have : (strOf l).data.toList = l.map fun n => UInt8.ofNat n.toNat := by simp [strOf]
  rw [this, List.map_map]
  conv => rhs; rw [← List.map_id l]
  exact List.map_congr_left fun x hx => u8_of x (h x hx)
theorem str_bytes (s : ByteArray) : strOf (bytesOf s) = s := by
  refine WideShapes.bytes_inj ?_
  unfold strOf bytesOf
  simp only [List.map_map]
  conv => rhs; rw [← List.map_id s.data.toList]
  refine List.map_congr_left fun x _ => ?_
  simp
theorem str_inj {a b : List Int} (ha : ∀ x ∈ a, 0 ≤ x ∧ x ≤ 255) (hb : ∀ x ∈ b, 0 ≤ x ∧ x ≤ 255) (h : strOf a = strOf b) : a = b := by
  have := congrArg bytesOf h
  rwa [bytes_str ha, bytes_str hb] at this
theorem list_inj {s t : ByteArray} (h : s.toList = t.toList) : s = t := WideShapes.bytes_inj (by rwa [ByteArray.toList_eq, ByteArray.toList_eq] at h)
theorem str_eq {a b : List Int} (ha : ∀ x ∈ a, 0 ≤ x ∧ x ≤ 255) (hb : ∀ x ∈ b, 0 ≤ x ∧ x ≤ 255) : ((strOf a).toList == (strOf b).toList) = decide (a = b) := by
  rw [Bool.eq_iff_iff, beq_iff_eq, decide_eq_true_eq]
  exact ⟨fun h => str_inj ha hb (list_inj h), fun h => by rw [h]⟩
theorem str_size (l : List Int) : (strOf l).size = l.length := by
  show ((l.map fun n => UInt8.ofNat n.toNat).toArray).size = _
  simp
theorem bytes_length (s : ByteArray) : (bytesOf s).length = s.size := by
  simp only [bytesOf, List.length_map, Array.length_toList]
  rfl
theorem bytes_u8 (s : ByteArray) : ∀ x ∈ bytesOf s, 0 ≤ x ∧ x ≤ 255 := by
  intro x hx
  simp only [bytesOf, List.mem_map] at hx
  obtain ⟨b, _, rfl⟩ := hx
  have := b.toNat_lt
  omega
end Go.Abs
