/- Of a command's bytes none that end sooner, and none that go on, are a command's: the reader in plain words. -/
import Derived.Test.YtlgippliihgcjaaDoorP1
namespace Go.Proofs.YtlgippliihgcjaaDoor.C
set_option linter.unusedVariables false
set_option linter.unusedSimpArgs false
open Go.RowKit Go.Proofs.YtlgippliihgcjaaDoorW.PrintWords Go.Proofs.YtlgippliihgcjaaDoorW.PrintLast

/-- A list that ends too soon: it is cut within the first part, or behind it. -/
theorem cut_cases {α : Type} {B Y u post : List α} (h : B ++ Y = u ++ post) (hY : Y ≠ []) : (∃ q, B = u ++ q ∧ q ++ Y = post) ∨ ∃ y, u = B ++ y ∧ y ≠ [] := by
  rcases List.append_eq_append_iff.1 h with ⟨a, h1, h2⟩ | ⟨a, h1, h2⟩
  · by_cases ha : a = []
    · subst ha
      exact .inl ⟨[], by simpa using h1.symm, by simpa using h2⟩
    · exact .inr ⟨a, h1, ha⟩
  · exact .inl ⟨a, h1, h2.symm⟩

theorem rn_cut (bs : List Int) : ∀ (f n k p acc : Nat) (B y : List Int), bs.drop p = B → numB n = B ++ y → y ≠ [] → (numB n).length ≤ f → (rn bs f k p acc).1 = 3
  | 0, n, _, _, _, B, y, _, hn, hy, hf => by
    exfalso
    have : numB n = [] := List.eq_nil_of_length_eq_zero (by omega)
    rw [this] at hn
    exact hy (List.append_eq_nil_iff.1 hn.symm).2
  | f + 1, n, k, p, acc, [], y, hd, _, _, _ => by
    have : bs[p]? = none := by rw [← List.head?_drop, hd]; rfl
    rw [rn, this]
  | f + 1, n, k, p, acc, b :: B, y, hd, hn, hy, hf => by
    by_cases h : n < 128
    · rw [numB_small h] at hn
      have h2 := (List.cons.inj hn).2
      exact absurd (List.append_eq_nil_iff.1 h2.symm).2 hy
    · have hb := numB_big h
      rw [hb] at hn hf
      obtain ⟨h1, h2⟩ := List.cons.inj hn
      obtain ⟨h3, h4⟩ := drop_get hd
      rw [rn, h3]
      simp only []
      rw [if_pos (by omega)]
      exact rn_cut bs f (n / 128) (k + 1) (p + 1) _ B y h4 h2 hy (by simpa using hf)

theorem stN_cut {bs : List Int} {n p : Nat} {B y : List Int} (hd : bs.drop p = B) (hn : numB n = B ++ y) (hy : y ≠ []) (hm : n ≤ 9223372036854775807) : (stN bs ⟨p, 0⟩).1.code = 3 := by
  have h : (readN bs p).1 = 3 := rn_cut bs 9 n 0 p 0 B y hd hn hy (numB_len' hm)
  rw [stN, if_pos rfl, h]
  rfl

theorem stT_cut {bs : List Int} {s : ByteArray} {p most : Nat} {B y : List Int} (hd : bs.drop p = B) (hn : txtB s = B ++ y) (hy : y ≠ []) (hs : s.size ≤ most) (hm : most ≤ 9223372036854775807) : (stT bs most ⟨p, 0⟩).1.code = 3 := by
  rw [txtB] at hn
  rcases cut_cases hn.symm hy with ⟨q, h1, h2⟩ | ⟨z, h1, hz⟩
  · have hd2 : bs.drop p = numB s.size ++ q := by rw [hd, h1]
    have hq := drop_more hd2
    have hlen : (bs.drop (p + (numB s.size).length)).length < s.size := by
      rw [hq]
      have h3 := congrArg List.length h2
      rw [List.length_append, bytesOf_length] at h3
      have : 0 < y.length := List.length_pos_iff.2 hy
      omega
    rw [List.length_drop] at hlen
    rw [stT, if_pos rfl, readN_enc hd2 (by omega), if_pos rfl]
    simp only []
    rw [if_neg (by omega), if_pos (by omega)]
  · have h : (readN bs p).1 = 3 := rn_cut bs 9 s.size 0 p 0 B z hd h1 hz (numB_len' (by omega))
    rw [stT, if_pos rfl, h]
    rfl

theorem stN_stuck (bs : List Int) {s : RS} (h : s.code = 3) : (stN bs s).1.code = 3 := by rw [stN, if_neg (by rw [h]; decide)]; exact h
theorem stT_stuck (bs : List Int) (m : Nat) {s : RS} (h : s.code = 3) : (stT bs m s).1.code = 3 := by rw [stT, if_neg (by rw [h]; decide)]; exact h
theorem runN_stuck (bs : List Int) : ∀ (m : Nat) {s : RS}, s.code = 3 → (runN bs m s).1.code = 3
  | 0, _, h => h
  | m + 1, _, h => stN_stuck bs (runN_stuck bs m h)
theorem runT_stuck (bs : List Int) : ∀ (m : Nat) {s : RS}, s.code = 3 → (runT bs m s).1.code = 3
  | 0, _, h => h
  | m + 1, _, h => stT_stuck bs 256 (runT_stuck bs m h)

theorem runN_cut (bs Y : List Int) (hY : Y ≠ []) (l : List Int) : ∀ (p : Nat) (B post : List Int), bs.drop p = B → B ++ Y = fm l ++ post → (∀ x ∈ l, 0 ≤ x ∧ x ≤ 4611686018427387904) →
    (∃ q, B = fm l ++ q ∧ q ++ Y = post) ∨ (runN bs l.length ⟨p, 0⟩).1.code = 3 := by
  induction l using snoc_ind with
  | h0 => intro p B post _ h _; exact .inl ⟨B, rfl, h⟩
  | h1 l x ih =>
    intro p B post hd h hx
    have e : fm (l ++ [x]) = fm l ++ numB x.toNat := by simp [fm]
    rw [e, List.append_assoc] at h
    have hx1 := hx x (by simp)
    have hxl : ∀ y ∈ l, 0 ≤ y ∧ y ≤ 4611686018427387904 := fun y hy => hx y (by simp [hy])
    rw [List.length_append, List.length_singleton]
    rcases ih p B _ hd h hxl with ⟨q, h1, h2⟩ | h1
    · have hd1 : bs.drop p = fm l ++ q := by rw [hd, h1]
      have hr := runN_enc bs l p q hd1 hxl
      rcases cut_cases h2 hY with ⟨q2, h3, h4⟩ | ⟨y, h3, h4⟩
      · exact .inl ⟨q2, by rw [h1, h3, e, List.append_assoc], h4⟩
      · refine .inr ?_
        rw [runN, hr]
        exact stN_cut (drop_more hd1) h3 h4 (by omega)
    · exact .inr (stN_stuck bs h1)

theorem runT_cut (bs Y : List Int) (hY : Y ≠ []) (l : List ByteArray) : ∀ (p : Nat) (B post : List Int), bs.drop p = B → B ++ Y = ft l ++ post → (∀ x ∈ l, x.size ≤ 256) →
    (∃ q, B = ft l ++ q ∧ q ++ Y = post) ∨ (runT bs l.length ⟨p, 0⟩).1.code = 3 := by
  induction l using snoc_ind with
  | h0 => intro p B post _ h _; exact .inl ⟨B, rfl, h⟩
  | h1 l x ih =>
    intro p B post hd h hx
    have e : ft (l ++ [x]) = ft l ++ txtB x := by simp [ft]
    rw [e, List.append_assoc] at h
    have hxl : ∀ y ∈ l, y.size ≤ 256 := fun y hy => hx y (by simp [hy])
    rw [List.length_append, List.length_singleton]
    rcases ih p B _ hd h hxl with ⟨q, h1, h2⟩ | h1
    · have hd1 : bs.drop p = ft l ++ q := by rw [hd, h1]
      have hr := runT_enc bs l p q hd1 hxl
      rcases cut_cases h2 hY with ⟨q2, h3, h4⟩ | ⟨y, h3, h4⟩
      · exact .inl ⟨q2, by rw [h1, h3, e, List.append_assoc], h4⟩
      · refine .inr ?_
        rw [runT, hr]
        exact stT_cut (drop_more hd1) h3 h4 (hx x (by simp)) (by omega)
    · exact .inr (stT_stuck bs 256 h1)

theorem code_stuck {bs : List Int} (h : (rdE bs).1.code = 3) : readCode bs = 3 := by
  have : stD bs (rdE bs).1 = 3 := by rw [stD, if_neg (by rw [h]; decide)]; exact h
  rw [readCode, this, if_neg (by decide)]

/-- Of a command's bytes none that end sooner are a command's. -/
theorem read_cut {c : Cm} (h : right c = true) {B Y : List Int} (hB : encB c = B ++ Y) (hY : Y ≠ []) : readCode B = 3 := by
  obtain ⟨h0, h1, hn, ht, hbl, hb⟩ := right_n h
  have hN : ∀ x ∈ c.nums, 0 ≤ x ∧ x ≤ 4611686018427387904 := fun x hx => numOk_iff (List.all_eq_true.1 hn x hx)
  have hT : ∀ x ∈ c.txts, x.size ≤ 256 := fun x hx => txtOk_iff (List.all_eq_true.1 ht x hx)
  have hC : ∀ x ∈ c.bodies, x.size ≤ 256 := fun x hx => txtOk_iff (List.all_eq_true.1 hb x hx)
  have e0 : B ++ Y = fm c.nums ++ (numB (if c.fifo then 1 else 0) ++ (ft c.txts ++ (numB c.bodies.length ++ (ft c.bodies ++ [])))) := by rw [← hB]; simp [encB, List.append_assoc]
  apply code_stuck
  rcases runN_cut B Y hY c.nums 0 B _ List.drop_zero e0 hN with ⟨q0, f0, e1⟩ | hs
  · have d0 : B.drop 0 = fm c.nums ++ q0 := by rw [List.drop_zero]; exact f0
    have rA : rdA B = _ := runN_enc B c.nums 0 q0 d0 hN
    have d1 := drop_more d0
    have rB0 := congrArg (fun x : RS × List Int => stN B x.1) rA
    change rdB B = stN B ⟨0 + (fm c.nums).length, 0⟩ at rB0
    rcases cut_cases e1 hY with ⟨q1, f1, e2⟩ | ⟨y, f1, hy⟩
    · have rB := rB0.trans (stN_enc (d1.trans f1) (by split <;> omega))
      have d2 := drop_more (d1.trans f1)
      have rC0 := congrArg (fun x : RS × Nat => runT B 6 x.1) rB
      change rdC B = runT B c.txts.length _ at rC0
      rcases runT_cut B Y hY c.txts _ q1 _ d2 e2 hT with ⟨q2, f2, e3⟩ | hs
      · have rC := rC0.trans (runT_enc B c.txts _ q2 (d2.trans f2) hT)
        have d3 := drop_more (d2.trans f2)
        have rD0 := congrArg (fun x : RS × List ByteArray => stN B x.1) rC
        change rdD B = stN B _ at rD0
        rcases cut_cases e3 hY with ⟨q3, f3, e4⟩ | ⟨y, f3, hy⟩
        · have rD := rD0.trans (stN_enc (d3.trans f3) (by omega))
          have d4 := drop_more (d3.trans f3)
          have rE := (congrArg (fun x : RS × Nat => runT B (min x.2 10) x.1) rD).trans ((by simp only []; rw [Nat.min_eq_left hbl]) : _ = runT B c.bodies.length _)
          change rdE B = _ at rE
          rcases runT_cut B Y hY c.bodies _ q3 [] d4 e4 hC with ⟨q4, f4, e5⟩ | hs
          · exact absurd (List.append_eq_nil_iff.1 e5).2 hY
          · rw [rE]; exact hs
        · have hs := stN_cut d3 f3 hy (by omega)
          rw [← rD0] at hs
          exact runT_stuck B _ hs
      · rw [← rC0] at hs
        exact runT_stuck B _ (stN_stuck B hs)
    · have hs := stN_cut d1 f1 hy (by split <;> omega)
      rw [← rB0] at hs
      exact runT_stuck B _ (stN_stuck B (runT_stuck B 6 hs))
  · exact runT_stuck B _ (stN_stuck B (runT_stuck B 6 (stN_stuck B hs)))

/-- Nor are those that go on. -/
theorem read_more {c : Cm} (h : right c = true) {Y : List Int} (hY : Y ≠ []) : readCode (encB c ++ Y) = 2 := by
  obtain ⟨h0, h1, hn, ht, hbl, hb⟩ := right_n h
  have hN : ∀ x ∈ c.nums, 0 ≤ x ∧ x ≤ 4611686018427387904 := fun x hx => numOk_iff (List.all_eq_true.1 hn x hx)
  have hT : ∀ x ∈ c.txts, x.size ≤ 256 := fun x hx => txtOk_iff (List.all_eq_true.1 ht x hx)
  have hB : ∀ x ∈ c.bodies, x.size ≤ 256 := fun x hx => txtOk_iff (List.all_eq_true.1 hb x hx)
  generalize hbs : encB c ++ Y = bs
  have d0 : bs.drop 0 = fm c.nums ++ (numB (if c.fifo then 1 else 0) ++ (ft c.txts ++ (numB c.bodies.length ++ (ft c.bodies ++ Y)))) := by rw [← hbs]; simp [encB, List.append_assoc]
  have rA := runN_enc bs c.nums 0 _ d0 hN
  have d1 := drop_more d0
  have eB := stN_enc d1 (by split <;> omega)
  have d2 := drop_more d1
  have eC := runT_enc bs c.txts _ _ d2 hT
  have d3 := drop_more d2
  have eD := stN_enc d3 (by omega)
  have d4 := drop_more d3
  have eE := runT_enc bs c.bodies _ Y d4 hB
  have d5 := drop_more d4
  change rdA bs = _ at rA
  have rB := (congrArg (fun x : RS × List Int => stN bs x.1) rA).trans eB
  change rdB bs = _ at rB
  have rC := (congrArg (fun x : RS × Nat => runT bs 6 x.1) rB).trans eC
  change rdC bs = _ at rC
  have rD := (congrArg (fun x : RS × List ByteArray => stN bs x.1) rC).trans eD
  change rdD bs = _ at rD
  have rE := (congrArg (fun x : RS × Nat => runT bs (min x.2 10) x.1) rD).trans ((by simp only []; rw [Nat.min_eq_left hbl]) : _ = runT bs c.bodies.length _)
  rw [eE] at rE
  change rdE bs = _ at rE
  have hlt : (rdE bs).1.p < bs.length := by
    rw [rE]
    apply Nat.lt_of_not_le
    intro hle
    exact hY (d5.symm.trans (List.drop_eq_nil_of_le hle))
  have hst : stD bs (rdE bs).1 = 2 := by
    rw [stD, if_pos hlt, rE]
    rfl
  rw [readCode, hst, if_neg (by decide)]

end Go.Proofs.YtlgippliihgcjaaDoor.C
