/- What was written is read as it was. -/
import Derived.Test.YtlgippliihgcjaaDoorR7
import Derived.Test.YtlgippliihgcjaaDoorR8
namespace Go.Proofs.YtlgippliihgcjaaDoor.C
set_option linter.unusedVariables false
set_option linter.unusedSimpArgs false
open Go.RowKit Go.Proofs.YtlgippliihgcjaaDoorW.PrintWords Go.Proofs.YtlgippliihgcjaaDoorW.PrintLast

theorem drop_get {bs : List Int} {p : Nat} {x : Int} {l : List Int} (h : bs.drop p = x :: l) : bs[p]? = some x ∧ bs.drop (p + 1) = l := by
  constructor
  · rw [← List.head?_drop, h]; rfl
  · rw [← List.tail_drop, h]; rfl
theorem drop_more {bs xs ys : List Int} {p : Nat} (h : bs.drop p = xs ++ ys) : bs.drop (p + xs.length) = ys := by
  rw [← List.drop_drop, h, List.drop_left]

theorem rn_enc (bs : List Int) : ∀ (f n k p acc : Nat) (post : List Int), bs.drop p = numB n ++ post → (numB n).length ≤ f → (0 < k → 0 < n) → rn bs f k p acc = (0, acc + n * 128 ^ k, p + (numB n).length)
  | 0, n, _, _, _, _, _, hf, _ => by
    by_cases h : n < 128
    · rw [numB_small h] at hf; simp at hf
    · rw [numB_big (by omega)] at hf; simp at hf
  | f + 1, n, k, p, acc, post, hd, hf, hk => by
    by_cases h : n < 128
    · rw [numB_small h] at hd ⊢
      obtain ⟨h1, _⟩ := drop_get hd
      rw [rn, h1]
      simp only []
      rw [if_neg (by omega), if_neg (by omega), Int.toNat_natCast, Nat.mod_eq_of_lt h]
      rfl
    · have hb := numB_big (n := n) (by omega)
      rw [hb] at hd hf ⊢
      obtain ⟨h1, h2⟩ := drop_get hd
      rw [rn, h1]
      simp only []
      rw [if_pos (by omega), rn_enc bs f (n / 128) (k + 1) (p + 1) _ post h2 (by simpa using hf) (by omega)]
      have e1 : (((n % 128 + 128 : Nat) : Int).toNat) % 128 = n % 128 := by rw [Int.toNat_natCast]; omega
      rw [e1, Nat.pow_succ, List.length_cons]
      refine Prod.ext rfl (Prod.ext ?_ (by simp; omega))
      have hn : n = n % 128 + 128 * (n / 128) := (Nat.mod_add_div n 128).symm
      show acc + n % 128 * 128 ^ k + n / 128 * (128 ^ k * 128) = acc + n * 128 ^ k
      conv => rhs; rw [hn]
      rw [Nat.add_mul, Nat.add_assoc]
      congr 2
      rw [Nat.mul_comm (128 ^ k) 128, ← Nat.mul_assoc, Nat.mul_comm (n / 128) 128]

theorem readN_enc {bs : List Int} {n p : Nat} {post : List Int} (hd : bs.drop p = numB n ++ post) (hn : n ≤ 9223372036854775807) : readN bs p = (0, n, p + (numB n).length) := by
  have := rn_enc bs 9 n 0 p 0 post hd (numB_len' hn) (by omega)
  rw [readN, this]; simp

theorem stN_enc {bs : List Int} {n p : Nat} {post : List Int} (hd : bs.drop p = numB n ++ post) (hn : n ≤ 9223372036854775807) : stN bs ⟨p, 0⟩ = (⟨p + (numB n).length, 0⟩, n) := by
  rw [stN, if_pos rfl, readN_enc hd hn]; rfl

theorem strOf_bytesOf (s : ByteArray) : strOfNums (bytesOf s) = s := by
  cases s with | mk d =>
  simp [strOfNums, bytesOf]
  apply Array.toList_inj.1
  simp
  conv => rhs; rw [← List.map_id d.toList]
  apply List.map_congr_left
  intro b _
  simp

theorem stT_enc {bs : List Int} {s : ByteArray} {p most : Nat} {post : List Int} (hd : bs.drop p = txtB s ++ post) (hs : s.size ≤ most) (hm : most ≤ 9223372036854775807) : stT bs most ⟨p, 0⟩ = (⟨p + (txtB s).length, 0⟩, s) := by
  rw [txtB, List.append_assoc] at hd
  have h2 := drop_more hd
  have hlen : (bs.drop (p + (numB s.size).length)).length = s.size + post.length := by rw [h2, List.length_append, bytesOf_length]
  rw [List.length_drop] at hlen
  rw [stT, if_pos rfl, readN_enc hd (by omega), if_pos rfl]
  simp only []
  rw [if_neg (by omega), if_neg (by omega), h2, List.take_left' (bytesOf_length s), strOf_bytesOf, txtB, List.length_append, bytesOf_length, Nat.add_assoc]

theorem snoc_ind {α : Type} {p : List α → Prop} (h0 : p []) (h1 : ∀ l x, p l → p (l ++ [x])) (l : List α) : p l := by
  have : ∀ r : List α, p r.reverse := by
    intro r
    induction r with
    | nil => exact h0
    | cons x r ih => rw [List.reverse_cons]; exact h1 _ _ ih
  rw [← List.reverse_reverse l]; exact this _

theorem runN_enc (bs : List Int) (l : List Int) : ∀ (p : Nat) (post : List Int), bs.drop p = fm l ++ post → (∀ x ∈ l, 0 ≤ x ∧ x ≤ 4611686018427387904) → runN bs l.length ⟨p, 0⟩ = (⟨p + (fm l).length, 0⟩, l) := by
  induction l using snoc_ind with
  | h0 => intro p post _ _; rfl
  | h1 l x ih =>
    intro p post hd hx
    have e : fm (l ++ [x]) = fm l ++ numB x.toNat := by simp [fm]
    rw [e, List.append_assoc] at hd
    have hx1 := hx x (by simp)
    have h1 := ih p _ hd (fun y hy => hx y (by simp [hy]))
    rw [List.length_append, List.length_singleton, runN, h1]
    simp only []
    rw [stN_enc (drop_more hd) (by omega), e, List.length_append, Int.toNat_of_nonneg hx1.1, Nat.add_assoc]

theorem runT_enc (bs : List Int) (l : List ByteArray) : ∀ (p : Nat) (post : List Int), bs.drop p = ft l ++ post → (∀ x ∈ l, x.size ≤ 256) → runT bs l.length ⟨p, 0⟩ = (⟨p + (ft l).length, 0⟩, l) := by
  induction l using snoc_ind with
  | h0 => intro p post _ _; rfl
  | h1 l x ih =>
    intro p post hd hx
    have e : ft (l ++ [x]) = ft l ++ txtB x := by simp [ft]
    rw [e, List.append_assoc] at hd
    have h1 := ih p _ hd (fun y hy => hx y (by simp [hy]))
    rw [List.length_append, List.length_singleton, runT, h1]
    simp only []
    rw [stT_enc (drop_more hd) (hx x (by simp)) (by omega), e, List.length_append, Nat.add_assoc]

/-- What was written is read as it was. -/
theorem read_enc {c : Cm} (h : right c = true) : readCode (encB c) = 0 ∧ readCm (encB c) = c := by
  obtain ⟨h0, h1, hn, ht, hbl, hb⟩ := right_n h
  have hN : ∀ x ∈ c.nums, 0 ≤ x ∧ x ≤ 4611686018427387904 := fun x hx => numOk_iff (List.all_eq_true.1 hn x hx)
  have hT : ∀ x ∈ c.txts, x.size ≤ 256 := fun x hx => txtOk_iff (List.all_eq_true.1 ht x hx)
  have hB : ∀ x ∈ c.bodies, x.size ≤ 256 := fun x hx => txtOk_iff (List.all_eq_true.1 hb x hx)
  have d0 : (encB c).drop 0 = fm c.nums ++ (numB (if c.fifo then 1 else 0) ++ (ft c.txts ++ (numB c.bodies.length ++ ft c.bodies))) := by simp [encB, List.append_assoc]
  have eA := runN_enc (encB c) c.nums 0 _ d0 hN
  have d1 := drop_more d0
  have eB := stN_enc d1 (by split <;> omega)
  have d2 := drop_more d1
  have eC := runT_enc (encB c) c.txts _ _ d2 hT
  have d3 := drop_more d2
  have eD := stN_enc d3 (by omega)
  have d4 := drop_more d3
  have eE := runT_enc (encB c) c.bodies _ [] (by rw [d4, List.append_nil]) hB
  have d5 : (encB c).drop _ = [] := drop_more (ys := []) (by rw [d4, List.append_nil])
  have rA := eA
  change rdA (encB c) = _ at rA
  have rB := (congrArg (fun x : RS × List Int => stN (encB c) x.1) rA).trans eB
  change rdB (encB c) = _ at rB
  have rC := (congrArg (fun x : RS × Nat => runT (encB c) 6 x.1) rB).trans eC
  change rdC (encB c) = _ at rC
  have rD := (congrArg (fun x : RS × List ByteArray => stN (encB c) x.1) rC).trans eD
  change rdD (encB c) = _ at rD
  have rE := (congrArg (fun x : RS × Nat => runT (encB c) (min x.2 10) x.1) rD).trans ((by simp only []; rw [Nat.min_eq_left hbl]) : _ = runT (encB c) c.bodies.length _)
  rw [eE] at rE
  change rdE (encB c) = _ at rE
  have hcm : rdCm (encB c) = c := by
    rw [rdCm, rA, rB, rC, rE]
    have hf : ((((if c.fifo then 1 else 0 : Nat)) : Int) == 1) = c.fifo := by cases c.fifo <;> rfl
    simp only [hf]
    cases c
    simp [mkC, fixN, Cm.nums, Cm.txts]
  have hlen : ¬ (rdE (encB c)).1.p < (encB c).length := by
    rw [rE]
    have := List.drop_eq_nil_iff.1 d5
    simp only []
    omega
  have hst : stD (encB c) (rdE (encB c)).1 = 0 := by
    rw [stD, if_neg hlen, rE]
    rfl
  have hcode : readCode (encB c) = 0 := by
    rw [readCode, if_pos hst, hcm, if_pos ⟨h, rfl⟩]
  exact ⟨hcode, by rw [readCm, if_pos hcode, hcm]⟩

/-- The bytes tell the commands apart. -/
theorem encB_inj {a b : Cm} (ha : right a = true) (hb : right b = true) : encB a = encB b ↔ a = b :=
  ⟨fun h => by rw [← (read_enc ha).2, h, (read_enc hb).2], fun h => by rw [h]⟩

end Go.Proofs.YtlgippliihgcjaaDoor.C
