/- formatBase10, by the library's contract, in the second view. -/
import Derived.Test.YtgmchiadphdlhaaDoorCodA
import Derived.Test.YtgmchiadphdlhaaDoorShelf
import Derived.Test.YtgmchiadphdlhaaDoorAbsJoin
namespace Go.Abs.S
open Go.Proofs
set_option linter.unusedVariables false
set_option linter.unusedSimpArgs false
set_option maxRecDepth 100000
set_option maxHeartbeats 2000000
/-- A number's last nd digits. -/
def digs (u nd : Nat) : List Int := (List.range nd).map fun t => ((48 + u / 10 ^ (nd - 1 - t) % 10 : Nat) : Int)
theorem digs_length (u nd : Nat) : (digs u nd).length = nd := by simp [digs]
theorem digs_at (u nd t : Nat) (h : t < nd) : (digs u nd)[t]?.getD 0 = ((48 + u / 10 ^ (nd - 1 - t) % 10 : Nat) : Int) := by simp [digs, h]
abbrev encB : UInt8 → Value := fun b => Value.int .u8 (b.toNat : Int)
theorem putRow_heap (w : World) (B off : Nat) (d : Array UInt8) (C : Array Value) (e : TypeId) (fr : Nat × Nat) (h : w.heap[B]? = some (.cells C e fr)) : (Sort.putRow encB w B off d).heap[B]? = some (.cells (Sort.putCells encB off d C) e fr) := by
  simp only [Sort.putRow, Sort.mapBlock, Array.getElem?_modify, if_true, h, Option.map_some, Sort.onCells]
theorem putRow_other (w : World) (B off : Nat) (d : Array UInt8) (B' : Nat) (h : B' ≠ B) : (Sort.putRow encB w B off d).heap[B']? = w.heap[B']? := by
  simp only [Sort.putRow, Sort.mapBlock, Array.getElem?_modify]
  rw [if_neg (fun e => h e.symm)]
theorem dg_int (u j : Nat) : ((Lib.dg u j).toNat : Int) = ((48 + u / 10 ^ j % 10 : Nat) : Int) := by
  unfold Lib.dg
  have : u / 10 ^ j % 10 < 10 := Nat.mod_lt _ (by decide)
  generalize u / 10 ^ j % 10 = q at *
  congr 1
  simp only [UInt8.toNat_ofNat']
  omega
theorem format_a {H : AHeap} {b v nd cap u : Nat} {x : Bool} {l : List Int} {e : TypeId} (hb : H[b]? = some ⟨ints .u8 l, v, true, e⟩) (hl8 : ∀ y ∈ l, 0 ≤ y ∧ y ≤ 255) (h1 : 1 ≤ nd) (hl : 1 + nd ≤ l.length) (hl2 : l.length ≤ 1000000) (hu : u < 10 ^ nd) (hu64 : u < 18446744073709551616) :
    ACall Tryd.prog glob false 75 [.sl b v 1 nd cap 1 x, .v (.int .u64 u)] H (.tup []) (H.set b ⟨ints .u8 (l.take 1 ++ digs u nd ++ l.drop (1 + nd)), v, true, e⟩) := by
  refine ⟨⟨_, Tryd.func75, by kernel_rfl, by kernel_rfl⟩, fun σ w us hus ha rel => ?_⟩
  obtain ⟨u0, u1, rfl⟩ : ∃ u0 u1, us = #[u0, u1] := by
    obtain ⟨l⟩ := us
    match l, hus with
    | [u0, u1], _ => exact ⟨u0, u1, rfl⟩
  have a0 := ha 0 (by simp)
  have a1 := ha 1 (by simp)
  simp only [List.getD_cons_zero, List.getD_cons_succ] at a0 a1
  have e0 : (#[u0, u1] : Array Value).getD 0 undef = u0 := rfl
  have e1 : (#[u0, u1] : Array Value).getD 1 undef = u1 := rfl
  rw [e0] at a0
  rw [e1] at a1
  cases a1
  cases a0 with
  | sl0 A => omega
  | @sl _ _ _ _ _ cap' _ _ lo hρ hc hx hlim =>
    obtain ⟨B, base, lim⟩ := lo
    obtain rfl : base = 0 := rel.base0 _ _ _ hρ
    obtain ⟨C, fr, c1, c2, c3, c4, c5⟩ := rel.blk b _ _ hb rfl hρ
    simp only [Nat.zero_add, ints_length] at c1 c2 c3 c4 c5
    have cell : ∀ j, j < l.length → C[j]? = some (.int .u8 (l[j]?.getD 0)) := fun j hj => by
      obtain ⟨y, d1, d2⟩ := c5 j hj
      rw [ints_get hj, List.getD_eq_getElem?_getD] at d2
      rw [d1]
      cases d2
      rfl
    obtain ⟨d, hd⟩ : ∃ d : Array UInt8, d = ((l.drop 1).take nd).toArray.map (fun n : Int => UInt8.ofNat n.toNat) := ⟨_, rfl⟩
    have hds : d.size = nd := by rw [hd]; simp; omega
    have hdj : ∀ j, j < nd → encB d[j]! = .int .u8 (l[1 + j]?.getD 0) := fun j hj => by
      have hlt : 1 + j < l.length := by omega
      have hg : d[j]! = UInt8.ofNat (l[1 + j]).toNat := by
        rw [getElem!_pos d j (by omega)]
        simp [hd, Nat.add_comm]
      have h8 := hl8 _ (List.getElem_mem hlt)
      show Value.int .u8 ((d[j]!).toNat : Int) = _
      rw [hg, List.getElem?_eq_getElem hlt, Option.getD_some]
      congr 1
      simp only [UInt8.toNat_ofNat']
      omega
    have hH : Sort.Holds encB w B (0 + 1) d := fun j hj => by
      rw [hds] at hj
      refine ⟨?_, ?_⟩
      · rw [hdj j hj]
        simp only [World.cell?, c1, Nat.zero_add]
        exact cell (1 + j) (by omega)
      · simp only [World.frozen?, c1]
        rcases c4 with h | h
        · simp; omega
        · simp; omega
    have hcall := Tryd.internal_strconv_formatBase10 B (0 + 1) cap' u d w hH (by rw [hds]; exact hu) hu64 (by omega)
    rw [hds] at hcall
    refine hcall.mono ?_
    rintro e' w' ⟨rfl, n, v', dk, rfl, hinv⟩
    have hks : dk.size = nd := hinv.size
    have hkj : ∀ t, t < nd → dk[t]! = Lib.dg u (nd - 1 - t) := fun t ht => hinv.done t (Nat.zero_le _) ht
    have hup := rel.upd hb rfl hρ (C := Sort.putCells encB (0 + 1) dk C) (fr := fr) (w' := (Sort.putRow encB w B (0 + 1) dk).drewN n) (ints .u8 (l.take 1 ++ digs u nd ++ l.drop (1 + nd)))
      (putRow_heap w B (0 + 1) dk C e fr c1) (by simpa [Sort.putCells] using c2) (by rw [ints_length]; simp [digs_length]; omega) c4 (fun j hj => by
        rw [ints_length] at hj
        simp only [List.length_append, List.length_take, List.length_drop, digs_length] at hj
        have hjl : j < l.length := by omega
        refine ⟨.int .u8 ((l.take 1 ++ digs u nd ++ l.drop (1 + nd))[j]?.getD 0), ?_, ?_⟩
        · simp only [Nat.zero_add, Sort.putCells, Array.getElem?_mapIdx, cell j hjl, Option.map_some, hks]
          by_cases h0 : j = 0
          · subst h0
            rw [if_neg (by omega), List.append_assoc, List.getElem?_append_left (by rw [List.length_take]; omega), List.getElem?_take, if_pos (by omega)]
          · by_cases hn : j < 1 + nd
            · rw [if_pos ⟨by omega, hn⟩, hkj (j - 1) (by omega), List.getElem?_append_left (by simp [digs_length]; omega), List.getElem?_append_right (by rw [List.length_take]; omega)]
              have : min 1 l.length = 1 := by omega
              rw [List.length_take, this, digs_at _ _ _ (by omega)]
              show some (Value.int .u8 ((Lib.dg u (nd - 1 - (j - 1))).toNat : Int)) = _
              rw [dg_int]
            · rw [if_neg (by omega), List.getElem?_append_right (by simp [digs_length]; omega), List.getElem?_drop]
              have e9 : 1 + nd + (j - (l.take 1 ++ digs u nd).length) = j := by
                rw [List.length_append, List.length_take, digs_length]
                omega
              rw [e9]
        · rw [ints_get (by simp [digs_length]; omega), List.getD_eq_getElem?_getD]
          exact .v _) (fun B' hB => putRow_other w B (0 + 1) dk B' hB) (by simp) rfl rfl rfl
    exact ⟨_, rfl, σ, .tup _ rfl (fun j hj => by simp at hj), hup.1, hup.2.1, fun h => by cases h⟩
end Go.Abs.S
