/- CoinLengths over lists: how many signs a text has, and that of two rows, the first of whole threes, the texts stand one behind the other. Condition: elements are bytes. -/
import Derived.Test.YtldfdofeecmhoaaDoorPCoinLengthsx1
import Derived.Test.YtldfdofeecmhoaaDoorPureText
namespace Go.Proofs.YtldfdofeecmhoaaDoor.Pure
open Go.RowKit Go.Proofs.YtldfdofeecmhoaaDoorW.PrintWords PL
theorem wr4 (n : Nat) (h : n ≤ 200) : wrap64 (wrap64 ((n : Int) / 3) * 4) = (n : Int) / 3 * 4 := by
  rw [w64 (n := (n : Int) / 3) (by omega) (by omega), w64 (by omega) (by omega)]
theorem wr5 (n : Nat) (h : n ≤ 200) : wrap64 (wrap64 (wrap64 ((n : Int) / 3) * 4) + ((n : Int) % 3 + 1)) = (n : Int) / 3 * 4 + ((n : Int) % 3 + 1) := by
  rw [wr4 n h, w64 (by omega) (by omega)]
open PCoinLengths Ext in
theorem CoinLengths : PCoinLengths.escutcheonlaw01_CoinLengths.Pure := by
  intro a b hma hwa hmb hwb
  have wa := bytes_of_wf hwa
  have wb := bytes_of_wf hwb
  have awake_true : escutcheonlaw01_awake.f = some true := by decide +kernel
  refine ⟨1, ?_⟩
  unfold escutcheonlaw01_CoinLengths.f
  rw [awake_true]
  simp only [Option.bind_some, if_true]
  by_cases hA : (a.length : Int) > 200
  · rw [if_pos hA]
    simp only [escutcheonlaw01_CoinLengths.j0, if_true]
    rw [awake_true]
    rfl
  · rw [if_neg hA]
    by_cases hB : (b.length : Int) > 200
    · rw [decide_eq_true hB]
      simp only [escutcheonlaw01_CoinLengths.j0, if_true]
      rw [awake_true]
      rfl
    · rw [decide_eq_false hB]
      simp only [escutcheonlaw01_CoinLengths.j0]
      rw [if_neg (by decide)]
      have e1 : wrap64 ((wrap64 ((a.length : Int) / 3)) * 3) = ((a.length / 3 * 3 : Nat) : Int) := by
        rw [w64 (n := (a.length : Int) / 3) (by omega) (by omega), w64 (by omega) (by omega)]
        omega
      rw [e1, if_pos (by omega), if_pos (by omega)]
      simp only [Option.bind_some, Int.toNat_natCast]
      have hA' : a.length ≤ 200 := by omega
      have hB' : b.length ≤ 200 := by omega
      have hc : (a.take (a.length / 3 * 3)).length = 3 * (a.length / 3) := by rw [List.length_take]; omega
      have wc : ∀ y ∈ a.take (a.length / 3 * 3), 0 ≤ y ∧ y ≤ 255 := fun y hy => wa y (List.mem_of_mem_take hy)
      have hcl : (a.take (a.length / 3 * 3)).length ≤ 200 := by omega
      generalize a.take (a.length / 3 * 3) = c at hc wc hcl
      generalize a.length / 3 = n at hc
      have wcb : ∀ y ∈ c ++ b, 0 ≤ y ∧ y ≤ 255 := fun y hy => by
        rcases List.mem_append.1 hy with h | h
        · exact wc y h
        · exact wb y h
      rw [text_f c wc (by omega), text_f b wb (by omega)]
      simp only [Option.bind_some, List.nil_append]
      rw [text_f (c ++ b) wcb (by rw [List.length_append]; omega)]
      have happ : text64 (c ++ b) = text64 c ++ text64 b := (enc_app _ b n c hc).1
      have hl1 := text_len c
      have hl2 := text_len b
      have es : ∀ l : List UInt8, (ByteArray.mk l.toArray).size = l.length := fun l => by simp [ByteArray.size]
      simp only [es, Option.bind_some]
      have FIN : Aside0 (((ByteArray.mk (text64 (c ++ b)).toArray).toList == (ByteArray.mk (text64 c).toArray ++ ByteArray.mk (text64 b).toArray).toList) = true) := by
        refine ⟨?_⟩
        rw [happ, beq_iff_eq, toList_inj]
        exact ByteArray.ext (by simp)
      clear happ awake_true
      generalize text64 (c ++ b) = tcb at *
      generalize text64 c = tc at *
      generalize text64 b = tb at *
      clear hwa hwb wa wb wc wcb
      have m3 : c.length % 3 = 0 := by omega
      rw [if_pos m3] at hl1
      have p4 : ([] : List Int).length + c.length < 140737488355328 := by
        rw [List.length_nil]
        omega
      have p5 : c.length + b.length < 140737488355328 := by omega
      have p1 : (tc.length : Int) = wrap64 (wrap64 ((c.length : Int) / 3) * 4) := by
        rw [wr4 _ hcl]
        omega
      have P1 := Aside0.mk p1
      clear p1
      by_cases h3 : b.length % 3 = 0
      · rw [if_pos h3] at hl2
        have p0 : ¬ ((b.length : Int) % 3 > 0) := by omega
        have p3 : tc.length + tb.length ≤ 9223372036854775807 := by omega
        have p2 : (tb.length : Int) = wrap64 (wrap64 ((b.length : Int) / 3) * 4) := by
          rw [wr4 _ hB']
          omega
        rw [if_neg p0, if_pos P1.out, if_pos p2, if_pos p4, if_pos p5, if_pos p3, FIN.out]
      · rw [if_neg h3] at hl2
        have p0 : (b.length : Int) % 3 > 0 := by omega
        have p3 : tc.length + tb.length ≤ 9223372036854775807 := by omega
        have p2 : (tb.length : Int) = wrap64 (wrap64 (wrap64 ((b.length : Int) / 3) * 4) + ((b.length : Int) % 3 + 1)) := by
          rw [wr5 _ hB']
          omega
        rw [if_pos p0, if_pos P1.out, if_pos p2, if_pos p4, if_pos p5, if_pos p3, FIN.out]
end Go.Proofs.YtldfdofeecmhoaaDoor.Pure
