/- What is read of bytes, in the words of the document's reader: of any bytes, what was read is what stands there. -/
import Derived.Test.YtlgippliihgcjaaDoorP1
namespace Go.Proofs.YtlgippliihgcjaaDoor.C
set_option linter.unusedVariables false
set_option linter.unusedSimpArgs false
open Go.RowKit Go.Proofs.YtlgippliihgcjaaDoorW.PrintWords Go.Proofs.YtlgippliihgcjaaDoorW.PrintLast

theorem drop_cons {bs : List Int} {p : Nat} {c : Int} (h : bs[p]? = some c) : bs.drop p = c :: bs.drop (p + 1) := by
  obtain ⟨hp, rfl⟩ := List.getElem?_eq_some_iff.1 h
  exact List.drop_eq_getElem_cons hp

theorem rn_dec {bs : List Int} (hby : Bytes bs) : ∀ (f k p acc : Nat), (rn bs f k p acc).1 = 0 → ∃ n, bs.drop p = numB n ++ bs.drop (rn bs f k p acc).2.2 ∧ (rn bs f k p acc).2.1 = acc + n * 128 ^ k ∧ (0 < k → 0 < n)
  | 0, k, p, acc, h => by simp [rn] at h
  | f + 1, k, p, acc, h => by
    cases hc : bs[p]? with
    | none => rw [rn_end hc] at h; simp at h
    | some c =>
      have hb := hby c (List.mem_of_getElem? hc)
      by_cases h1 : 128 ≤ c
      · rw [rn_more hc h1] at h ⊢
        obtain ⟨n, e1, e2, e3⟩ := rn_dec hby f (k + 1) (p + 1) _ h
        have hn := e3 (by omega)
        refine ⟨c.toNat % 128 + 128 * n, ?_, ?_, fun _ => by omega⟩
        · have q1 : (c.toNat % 128 + 128 * n) % 128 = c.toNat % 128 := by omega
          have q2 : (c.toNat % 128 + 128 * n) / 128 = n := by omega
          rw [numB_big (by omega), q1, q2, drop_cons hc, e1, List.cons_append]
          congr 1
          omega
        · rw [e2, Nat.pow_succ, Nat.add_mul, Nat.add_assoc]
          congr 2
          rw [Nat.mul_comm (128 ^ k) 128, ← Nat.mul_assoc, Nat.mul_comm n 128]
      · by_cases h2 : c = 0 ∧ 0 < k
        · rw [rn_bad hc h2.1 h2.2] at h; simp at h
        · rw [rn_last hc h1 h2]
          refine ⟨c.toNat, ?_, ?_, fun hk => by omega⟩
          · rw [numB_small (by omega), drop_cons hc, Int.toNat_of_nonneg hb.1]; rfl
          · simp only []; rw [Nat.mod_eq_of_lt (by omega)]

theorem readN_dec {bs : List Int} (hby : Bytes bs) {p : Nat} (h : (readN bs p).1 = 0) : bs.drop p = numB (readN bs p).2.1 ++ bs.drop (readN bs p).2.2 := by
  obtain ⟨n, e1, e2, _⟩ := rn_dec hby 9 0 p 0 h
  have e : (readN bs p).2.1 = n := by rw [readN, e2]; simp
  rw [e]; exact e1

theorem stN_ok {bs : List Int} {s : RS} (h : (stN bs s).1.code = 0) : s.code = 0 := by
  unfold stN at h
  split at h
  · assumption
  · exact h
theorem stT_ok {bs : List Int} {m : Nat} {s : RS} (h : (stT bs m s).1.code = 0) : s.code = 0 := by
  unfold stT at h
  split at h
  · assumption
  · exact h
theorem stN_dec {bs : List Int} (hby : Bytes bs) {s : RS} (h : (stN bs s).1.code = 0) : bs.drop s.p = numB (stN bs s).2 ++ bs.drop (stN bs s).1.p := by
  have h0 := stN_ok h
  unfold stN at h ⊢
  rw [if_pos h0] at h ⊢
  by_cases h1 : (readN bs s.p).1 = 0
  · rw [if_pos h1]
    exact readN_dec hby h1
  · rw [if_neg h1] at h; exact absurd h h1
theorem bytesOf_strOf {l : List Int} (h : Bytes l) : bytesOf (strOfNums l) = l := by
  simp only [strOfNums, bytesOf]
  simp
  conv => rhs; rw [← List.map_id l]
  apply List.map_congr_left
  intro b hb
  have := h b hb
  simp
  omega
theorem strOf_size (l : List Int) : (strOfNums l).size = l.length := by simp [strOfNums, ByteArray.size]
theorem stT_dec {bs : List Int} (hby : Bytes bs) {m : Nat} {s : RS} (h : (stT bs m s).1.code = 0) : bs.drop s.p = txtB (stT bs m s).2 ++ bs.drop (stT bs m s).1.p ∧ (stT bs m s).2.size ≤ m := by
  have h0 := stT_ok h
  unfold stT at h ⊢
  rw [if_pos h0] at h ⊢
  by_cases h1 : (readN bs s.p).1 = 0
  · rw [if_pos h1] at h ⊢
    have hd := readN_dec hby h1
    by_cases h2 : m < (readN bs s.p).2.1
    · rw [if_pos h2] at h; simp at h
    · rw [if_neg h2] at h ⊢
      by_cases h3 : bs.length - (readN bs s.p).2.2 < (readN bs s.p).2.1
      · rw [if_pos h3] at h; simp at h
      · rw [if_neg h3] at h ⊢
        simp only []
        have hs : (strOfNums ((bs.drop (readN bs s.p).2.2).take (readN bs s.p).2.1)).size = (readN bs s.p).2.1 := by
          rw [strOf_size, List.length_take, List.length_drop]; omega
        refine ⟨?_, by rw [hs]; omega⟩
        rw [txtB, hs, bytesOf_strOf (fun x hx => hby x (List.mem_of_mem_drop (List.mem_of_mem_take hx))), List.append_assoc, ← List.drop_drop, List.take_append_drop]
        exact hd
  · rw [if_neg h1] at h; exact absurd h h1
theorem runN_ok {bs : List Int} : ∀ (m : Nat) {s : RS}, (runN bs m s).1.code = 0 → s.code = 0
  | 0, _, h => h
  | m + 1, _, h => runN_ok m (stN_ok h)
theorem runT_ok {bs : List Int} : ∀ (m : Nat) {s : RS}, (runT bs m s).1.code = 0 → s.code = 0
  | 0, _, h => h
  | m + 1, _, h => runT_ok m (stT_ok h)
theorem fm_last (l : List Int) (x : Int) : fm (l ++ [x]) = fm l ++ numB x.toNat := by simp [fm]
theorem ft_last (l : List ByteArray) (x : ByteArray) : ft (l ++ [x]) = ft l ++ txtB x := by simp [ft]
theorem runN_dec {bs : List Int} (hby : Bytes bs) : ∀ (m : Nat) {s : RS}, (runN bs m s).1.code = 0 → bs.drop s.p = fm (runN bs m s).2 ++ bs.drop (runN bs m s).1.p
  | 0, _, _ => rfl
  | m + 1, s, h => by
    have h1 := stN_ok h
    have ih := runN_dec hby m h1
    have hd := stN_dec hby h
    simp only [runN]
    rw [fm_last, Int.toNat_natCast, List.append_assoc, ← hd]
    exact ih
theorem runT_dec {bs : List Int} (hby : Bytes bs) : ∀ (m : Nat) {s : RS}, (runT bs m s).1.code = 0 → bs.drop s.p = ft (runT bs m s).2 ++ bs.drop (runT bs m s).1.p
  | 0, _, _ => rfl
  | m + 1, s, h => by
    have h1 := stT_ok h
    have ih := runT_dec hby m h1
    have hd := (stT_dec hby h).1
    simp only [runT]
    rw [ft_last, List.append_assoc, ← hd]
    exact ih

/-- What was read of bytes stands there. -/
theorem rd_dec {bs : List Int} (hby : Bytes bs) (h : stD bs (rdE bs).1 = 0) : bs = fm (rdA bs).2 ++ (numB (rdB bs).2 ++ (ft (rdC bs).2 ++ (numB (rdD bs).2 ++ ft (rdE bs).2))) := by
  have h0 : (rdE bs).1.code = 0 ∧ bs.length ≤ (rdE bs).1.p := by
    unfold stD at h
    split at h
    · rename_i hc
      refine ⟨hc, ?_⟩
      split at h
      · simp at h
      · omega
    · rename_i hc; exact absurd h hc
  obtain ⟨hE, hp⟩ := h0
  have hD : (rdD bs).1.code = 0 := runT_ok _ hE
  have hC : (rdC bs).1.code = 0 := stN_ok hD
  have hB : (rdB bs).1.code = 0 := runT_ok _ hC
  have hA : (rdA bs).1.code = 0 := stN_ok hB
  have eA : bs.drop 0 = _ := runN_dec hby 10 (s := ⟨0, 0⟩) hA
  have eB := stN_dec hby hB
  have eC := runT_dec hby 6 (s := (rdB bs).1) hC
  have eD := stN_dec hby hD
  have eE := runT_dec hby (min (rdD bs).2 10) (s := (rdD bs).1) hE
  change bs.drop 0 = fm (rdA bs).2 ++ bs.drop (rdA bs).1.p at eA
  change bs.drop (rdA bs).1.p = numB (rdB bs).2 ++ bs.drop (rdB bs).1.p at eB
  change bs.drop (rdB bs).1.p = ft (rdC bs).2 ++ bs.drop (rdC bs).1.p at eC
  change bs.drop (rdC bs).1.p = numB (rdD bs).2 ++ bs.drop (rdD bs).1.p at eD
  change bs.drop (rdD bs).1.p = ft (rdE bs).2 ++ bs.drop (rdE bs).1.p at eE
  rw [List.drop_eq_nil_of_le hp, List.append_nil] at eE
  rw [← eE, ← eD, ← eC, ← eB, ← eA, List.drop_zero]

/-- A command that may be written is read number by number as it was written. -/
theorem rd_enc {c : Cm} (h : right c = true) : (rdB (encB c)).2 = (if c.fifo then 1 else 0) ∧ (rdD (encB c)).2 = c.bodies.length := by
  obtain ⟨h0, h1, hn, ht, hbl, hb⟩ := right_n h
  have hN : ∀ x ∈ c.nums, 0 ≤ x ∧ x ≤ 4611686018427387904 := fun x hx => numOk_iff (List.all_eq_true.1 hn x hx)
  have hT : ∀ x ∈ c.txts, x.size ≤ 256 := fun x hx => txtOk_iff (List.all_eq_true.1 ht x hx)
  have d0 : (encB c).drop 0 = fm c.nums ++ (numB (if c.fifo then 1 else 0) ++ (ft c.txts ++ (numB c.bodies.length ++ ft c.bodies))) := by simp [encB, List.append_assoc]
  have rA := runN_enc (encB c) c.nums 0 _ d0 hN
  have d1 := drop_more d0
  have eB := stN_enc d1 (by split <;> omega)
  have d2 := drop_more d1
  have eC := runT_enc (encB c) c.txts _ _ d2 hT
  have d3 := drop_more d2
  have eD := stN_enc d3 (by omega)
  change rdA (encB c) = _ at rA
  have rB := (congrArg (fun x : RS × List Int => stN (encB c) x.1) rA).trans eB
  change rdB (encB c) = _ at rB
  have rC := (congrArg (fun x : RS × Nat => runT (encB c) 6 x.1) rB).trans eC
  change rdC (encB c) = _ at rC
  have rD := (congrArg (fun x : RS × List ByteArray => stN (encB c) x.1) rC).trans eD
  change rdD (encB c) = _ at rD
  exact ⟨by rw [rB], by rw [rD]⟩

/-- What the document has amiss with bytes. -/
def refCode (bs : List Int) : Int := if stD bs (rdE bs).1 = 0 then (if 1 < (rdB bs).2 ∨ 10 < (rdD bs).2 ∨ right (rdCm bs) = false then 2 else 0) else stD bs (rdE bs).1

theorem rdCm_nums (bs : List Int) : (rdCm bs).nums = (rdA bs).2 := by
  have hl := runN_len bs 10 ⟨0, 0⟩
  change (rdA bs).2.length = 10 at hl
  unfold rdCm
  generalize (rdA bs).2 = l at hl ⊢
  match l, hl with | [_, _, _, _, _, _, _, _, _, _], _ => simp [mkC, fixN, Cm.nums]
theorem rdCm_txts (bs : List Int) : (rdCm bs).txts = (rdC bs).2 := by
  have hl := runT_len bs 6 (rdB bs).1
  change (rdC bs).2.length = 6 at hl
  unfold rdCm
  generalize (rdC bs).2 = l at hl ⊢
  match l, hl with | [_, _, _, _, _, _], _ => simp [mkC, Cm.txts]

theorem code_ref {bs : List Int} (hby : Bytes bs) : refCode bs = readCode bs := by
  unfold refCode readCode
  by_cases h : stD bs (rdE bs).1 = 0
  · rw [if_pos h, if_pos h]
    cases hr : right (rdCm bs) with
    | false => rw [if_pos (.inr (.inr rfl)), if_neg (by rintro ⟨h1, _⟩; exact absurd h1 (by decide))]
    | true =>
      by_cases he : encB (rdCm bs) = bs
      · have := rd_enc hr
        rw [he] at this
        have hb := (right_n hr).2.2.2.2.1
        have hno : ¬ (1 < (rdB bs).2 ∨ 10 < (rdD bs).2 ∨ true = false) := by
          rintro (h1 | h1 | h1)
          · rw [this.1] at h1; split at h1 <;> omega
          · rw [this.2] at h1; exact absurd h1 (by change ¬ 10 < (rdCm bs).bodies.length; omega)
          · exact absurd h1 (by decide)
        rw [if_neg hno, if_pos (show true = true ∧ encB (rdCm bs) = bs from ⟨rfl, he⟩)]
      · rw [if_neg (show ¬ (true = true ∧ encB (rdCm bs) = bs) from fun h1 => he h1.2)]
        refine if_pos ?_
        apply Classical.byContradiction
        intro hn
        have hB : (rdB bs).2 ≤ 1 := by apply Nat.le_of_not_lt; intro h1; exact hn (.inl h1)
        have hD : (rdD bs).2 ≤ 10 := by apply Nat.le_of_not_lt; intro h1; exact hn (.inr (.inl h1))
        apply he
        have hd := rd_dec hby h
        have hlen : (rdE bs).2.length = (rdD bs).2 := (runT_len bs _ _).trans (Nat.min_eq_left hD)
        have hf : (if (rdCm bs).fifo = true then 1 else 0) = (rdB bs).2 := by
          have e : (rdCm bs).fifo = (((rdB bs).2 : Int) == 1) := rfl
          rw [e]
          have : (rdB bs).2 = 0 ∨ (rdB bs).2 = 1 := by omega
          rcases this with h2 | h2 <;> rw [h2] <;> rfl
        have hbod : (rdCm bs).bodies = (rdE bs).2 := rfl
        conv => rhs; rw [hd]
        rw [encB, rdCm_nums, rdCm_txts, hf, hbod, hlen]
        simp only [List.append_assoc]
  · rw [if_neg h, if_neg h]

end Go.Proofs.YtlgippliihgcjaaDoor.C
