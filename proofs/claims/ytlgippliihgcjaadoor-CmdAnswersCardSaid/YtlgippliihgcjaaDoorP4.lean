/- What is read of an answer: the plain functions, and that what was read stands there. -/
import Derived.Test.YtlgippliihgcjaaDoorP3
import Derived.Test.YtlgippliihgcjaaDoorA3
namespace Go.Proofs.YtlgippliihgcjaaDoor.C
set_option linter.unusedVariables false
set_option linter.unusedSimpArgs false
open Go.RowKit Go.Proofs.YtlgippliihgcjaaDoorW.PrintWords Go.Proofs.YtlgippliihgcjaaDoorW.PrintLast

/-- A message more. -/
def stK (bs : List Int) (s : RS) : RS × Tk :=
  let a := stN bs s
  let b := stN bs a.1
  let c := stT bs 256 b.1
  let d := stT bs 256 c.1
  let e := stT bs 256 d.1
  (e.1, { id := a.2, count := b.2, receipt := c.2, body := d.2, group := e.2 })
/-- So many messages, one behind the other. -/
def runK (bs : List Int) : Nat → RS → RS × List Tk
  | 0, s => (s, [])
  | m + 1, s => ((stK bs (runK bs m s).1).1, (runK bs m s).2 ++ [(stK bs (runK bs m s).1).2])
theorem runK_len (bs : List Int) : ∀ m s, (runK bs m s).2.length = m := by
  intro m; induction m with
  | zero => intro s; rfl
  | succ m ih => intro s; simp [runK, ih]
theorem rNs_le {bs : List Int} : ∀ (m p : Nat), p ≤ bs.length → (rNs bs m p).2.2 ≤ bs.length
  | 0, _, h => h
  | m + 1, p, h => by
    rw [rNs]
    split
    · exact rNs_le m _ (readN_le h)
    · exact h
theorem stNs_le {bs : List Int} {m : Nat} {s : RS} (h : s.p ≤ bs.length) : (stNs bs m s).1.p ≤ bs.length := by
  unfold stNs
  repeat' split
  all_goals first | exact h | exact rNs_le _ _ (readN_le h)
theorem stK_le {bs : List Int} {s : RS} (h : s.p ≤ bs.length) : (stK bs s).1.p ≤ bs.length := stT_le (stT_le (stT_le (stN_le (stN_le h))))
theorem runK_le {bs : List Int} : ∀ m {s : RS}, s.p ≤ bs.length → (runK bs m s).1.p ≤ bs.length := by
  intro m; induction m with
  | zero => intro s h; exact h
  | succ m ih => intro s h; exact stK_le (ih h)

def raA (bs : List Int) : RS × Nat := stN bs ⟨0, 0⟩
def raB (bs : List Int) : RS × List Int := stNs bs 10 (raA bs).1
def raC (bs : List Int) : RS × Nat := stN bs (raB bs).1
def raD (bs : List Int) : RS × List Tk := runK bs (min (raC bs).2 10) (raC bs).1
/-- What stands in the answer behind all reading. -/
def raAn (bs : List Int) : An := { code := (raA bs).2, ids := (raB bs).2, took := (raD bs).2 }
def zeroAn : An := { code := 0, ids := [], took := [] }
/-- Why bytes are no answer's; 0: they are one's. -/
def ansCode (bs : List Int) : Int := if stD bs (raD bs).1 = 0 then (if rightA (raAn bs) = true ∧ encA (raAn bs) = bs then 0 else 2) else stD bs (raD bs).1
def ansOf (bs : List Int) : An := if ansCode bs = 0 then raAn bs else zeroAn
/-- What the document has amiss with bytes. -/
def refCodeA (bs : List Int) : Int := if stD bs (raD bs).1 = 0 then (if 10 < (raC bs).2 ∨ rightA (raAn bs) = false then 2 else 0) else stD bs (raD bs).1

theorem rNs_dec {bs : List Int} (hby : Bytes bs) : ∀ (m p : Nat), (rNs bs m p).1 = 0 → bs.drop p = fm (rNs bs m p).2.1 ++ bs.drop (rNs bs m p).2.2 ∧ (rNs bs m p).2.1.length = m
  | 0, _, _ => ⟨rfl, rfl⟩
  | m + 1, p, h => by
    rw [rNs] at h ⊢
    by_cases h0 : (readN bs p).1 = 0
    · rw [if_pos h0] at h ⊢
      obtain ⟨i1, i2⟩ := rNs_dec hby m _ h
      refine ⟨?_, by simp [i2]⟩
      have e : fm (((readN bs p).2.1 : Int) :: (rNs bs m (readN bs p).2.2).2.1) = numB (readN bs p).2.1 ++ fm (rNs bs m (readN bs p).2.2).2.1 := by simp [fm]
      rw [e, List.append_assoc, ← i1]
      exact readN_dec hby h0
    · rw [if_neg h0] at h; exact absurd h h0
theorem stNs_ok {bs : List Int} {m : Nat} {s : RS} (h : (stNs bs m s).1.code = 0) : s.code = 0 := by
  unfold stNs at h
  split at h
  · assumption
  · exact h
theorem stNs_dec {bs : List Int} (hby : Bytes bs) {m : Nat} {s : RS} (h : (stNs bs m s).1.code = 0) : bs.drop s.p = rowB (stNs bs m s).2 ++ bs.drop (stNs bs m s).1.p := by
  have h0 := stNs_ok h
  unfold stNs at h ⊢
  rw [if_pos h0] at h ⊢
  by_cases h1 : (readN bs s.p).1 = 0
  · rw [if_pos h1] at h ⊢
    by_cases h2 : m < (readN bs s.p).2.1
    · rw [if_pos h2] at h; simp at h
    · rw [if_neg h2] at h ⊢
      by_cases h3 : (rNs bs (readN bs s.p).2.1 (readN bs s.p).2.2).1 = 0
      · rw [if_pos h3] at h ⊢
        obtain ⟨i1, i2⟩ := rNs_dec hby _ _ h3
        simp only [rowB]
        rw [i2, List.append_assoc, ← i1]
        exact readN_dec hby h1
      · rw [if_neg h3] at h; exact absurd h h3
  · rw [if_neg h1] at h; exact absurd h h1
theorem stK_ok {bs : List Int} {s : RS} (h : (stK bs s).1.code = 0) : s.code = 0 := stN_ok (stN_ok (stT_ok (stT_ok (stT_ok h))))
theorem stK_dec {bs : List Int} (hby : Bytes bs) {s : RS} (h : (stK bs s).1.code = 0) : bs.drop s.p = tkB (stK bs s).2 ++ bs.drop (stK bs s).1.p := by
  have he : (stT bs 256 (stT bs 256 (stT bs 256 (stN bs (stN bs s).1).1).1).1).1.code = 0 := h
  have hd := stT_ok he
  have hc := stT_ok hd
  have hb := stT_ok hc
  have ha := stN_ok hb
  have e5 := (stT_dec hby he).1
  have e4 := (stT_dec hby hd).1
  have e3 := (stT_dec hby hc).1
  have e2 := stN_dec hby hb
  have e1 := stN_dec hby ha
  simp only [tkB, stK, Int.toNat_natCast, List.append_assoc]
  rw [← e5, ← e4, ← e3, ← e2]
  exact e1
theorem tksB_last (l : List Tk) (x : Tk) : tksB (l ++ [x]) = tksB l ++ tkB x := by simp [tksB]
theorem runK_ok {bs : List Int} : ∀ (m : Nat) {s : RS}, (runK bs m s).1.code = 0 → s.code = 0
  | 0, _, h => h
  | m + 1, _, h => runK_ok m (stK_ok h)
theorem runK_dec {bs : List Int} (hby : Bytes bs) : ∀ (m : Nat) {s : RS}, (runK bs m s).1.code = 0 → bs.drop s.p = tksB (runK bs m s).2 ++ bs.drop (runK bs m s).1.p
  | 0, _, _ => rfl
  | m + 1, s, h => by
    have h1 := stK_ok h
    have ih := runK_dec hby m h1
    have hd := stK_dec hby h
    simp only [runK]
    rw [tksB_last, List.append_assoc, ← hd]
    exact ih

/-- What was read of an answer's bytes stands there. -/
theorem ra_dec {bs : List Int} (hby : Bytes bs) (h : stD bs (raD bs).1 = 0) : bs = numB (raA bs).2 ++ (rowB (raB bs).2 ++ (numB (raC bs).2 ++ tksB (raD bs).2)) := by
  have h0 : (raD bs).1.code = 0 ∧ bs.length ≤ (raD bs).1.p := by
    unfold stD at h
    split at h
    · rename_i hc
      refine ⟨hc, ?_⟩
      split at h
      · simp at h
      · omega
    · rename_i hc; exact absurd h hc
  obtain ⟨hD, hp⟩ := h0
  have hC : (raC bs).1.code = 0 := runK_ok _ hD
  have hB : (raB bs).1.code = 0 := stN_ok hC
  have hA : (raA bs).1.code = 0 := stNs_ok hB
  have eA : bs.drop 0 = _ := stN_dec hby (s := ⟨0, 0⟩) hA
  have eB := stNs_dec hby (m := 10) (s := (raA bs).1) hB
  have eC := stN_dec hby (s := (raB bs).1) hC
  have eD := runK_dec hby (min (raC bs).2 10) (s := (raC bs).1) hD
  change bs.drop 0 = numB (raA bs).2 ++ bs.drop (raA bs).1.p at eA
  change bs.drop (raA bs).1.p = rowB (raB bs).2 ++ bs.drop (raB bs).1.p at eB
  change bs.drop (raB bs).1.p = numB (raC bs).2 ++ bs.drop (raC bs).1.p at eC
  change bs.drop (raC bs).1.p = tksB (raD bs).2 ++ bs.drop (raD bs).1.p at eD
  rw [List.drop_eq_nil_of_le hp, List.append_nil] at eD
  rw [← eD, ← eC, ← eB, ← eA, List.drop_zero]

theorem rNs_enc (bs : List Int) : ∀ (l : List Int) (p : Nat) (post : List Int), bs.drop p = fm l ++ post → (∀ x ∈ l, 0 ≤ x ∧ x ≤ 4611686018427387904) → rNs bs l.length p = (0, l, p + (fm l).length)
  | [], p, post, _, _ => rfl
  | x :: l, p, post, hd, hx => by
    have e : fm (x :: l) = numB x.toNat ++ fm l := by simp [fm]
    rw [e, List.append_assoc] at hd
    have hx1 := hx x (by simp)
    have hr := readN_enc (n := x.toNat) hd (by omega)
    have ih := rNs_enc bs l _ post (drop_more hd) (fun y hy => hx y (by simp [hy]))
    rw [List.length_cons, rNs, hr, if_pos rfl]
    simp only []
    rw [ih, e, List.length_append, Int.toNat_of_nonneg hx1.1, Nat.add_assoc]
theorem stNs_enc {bs l : List Int} {p : Nat} {post : List Int} (hd : bs.drop p = rowB l ++ post) (hx : ∀ x ∈ l, 0 ≤ x ∧ x ≤ 4611686018427387904) (hl : l.length ≤ 10) : stNs bs 10 ⟨p, 0⟩ = (⟨p + (rowB l).length, 0⟩, l) := by
  rw [rowB, List.append_assoc] at hd
  have hr := readN_enc (n := l.length) hd (by omega)
  have hs := rNs_enc bs l _ post (drop_more hd) hx
  rw [stNs, if_pos rfl, hr, if_pos rfl]
  simp only []
  rw [if_neg (by omega), hs, if_pos rfl]
  rw [rowB, List.length_append, Nat.add_assoc]
theorem stK_enc {bs : List Int} {t : Tk} {p : Nat} {post : List Int} (hd : bs.drop p = tkB t ++ post) (ht : tkOk t = true) : stK bs ⟨p, 0⟩ = (⟨p + (tkB t).length, 0⟩, t) := by
  obtain ⟨h1, h2, h3, h4, h5⟩ := tkOk_iff ht
  simp only [tkB, List.append_assoc] at hd
  have d1 := drop_more hd
  have d2 := drop_more d1
  have d3 := drop_more d2
  have d4 := drop_more d3
  have e1 := stN_enc hd (by omega)
  have e2 := stN_enc d1 (by omega)
  have e3 := stT_enc d2 h3 (by omega)
  have e4 := stT_enc d3 h4 (by omega)
  have e5 := stT_enc d4 h5 (by omega)
  simp only [stK, e1, e2, e3, e4, e5, Int.toNat_of_nonneg h1.1, Int.toNat_of_nonneg h2.1]
  refine Prod.ext ?_ rfl
  simp only [tkB, List.length_append]
  congr 1
  omega
theorem runK_enc (bs : List Int) (l : List Tk) : ∀ (p : Nat) (post : List Int), bs.drop p = tksB l ++ post → (∀ x ∈ l, tkOk x = true) → runK bs l.length ⟨p, 0⟩ = (⟨p + (tksB l).length, 0⟩, l) := by
  induction l using snoc_ind with
  | h0 => intro p post _ _; rfl
  | h1 l x ih =>
    intro p post hd hx
    rw [tksB_last, List.append_assoc] at hd
    have h1 := ih p _ hd (fun y hy => hx y (by simp [hy]))
    rw [List.length_append, List.length_singleton, runK, h1]
    simp only []
    rw [stK_enc (drop_more hd) (hx x (by simp)), tksB_last, List.length_append, Nat.add_assoc]

/-- An answer that may be written is read as it was. -/
theorem ans_enc {a : An} (h : rightA a = true) : ansCode (encA a) = 0 ∧ ansOf (encA a) = a ∧ (raC (encA a)).2 = a.took.length := by
  obtain ⟨hc, hl1, hl2, hi, ht⟩ := rightA_n h
  obtain ⟨hc0, hc1⟩ := numOk_iff hc
  have hI : ∀ x ∈ a.ids, 0 ≤ x ∧ x ≤ 4611686018427387904 := fun x hx => numOk_iff (List.all_eq_true.1 hi x hx)
  have hT : ∀ x ∈ a.took, tkOk x = true := fun x hx => List.all_eq_true.1 ht x hx
  have d0 : (encA a).drop 0 = numB a.code.toNat ++ (rowB a.ids ++ (numB a.took.length ++ tksB a.took)) := by simp [encA, List.append_assoc]
  have eA := stN_enc d0 (by omega)
  have d1 := drop_more d0
  have eB := stNs_enc d1 hI hl1
  have d2 := drop_more d1
  have eC := stN_enc d2 (by omega)
  have d3 := drop_more d2
  have eD := runK_enc (encA a) a.took _ [] (by rw [d3, List.append_nil]) hT
  have d4 : (encA a).drop _ = [] := drop_more (ys := []) (by rw [d3, List.append_nil])
  have rA := eA
  change raA (encA a) = _ at rA
  have rB := (congrArg (fun x : RS × Nat => stNs (encA a) 10 x.1) rA).trans eB
  change raB (encA a) = _ at rB
  have rC := (congrArg (fun x : RS × List Int => stN (encA a) x.1) rB).trans eC
  change raC (encA a) = _ at rC
  have rD := (congrArg (fun x : RS × Nat => runK (encA a) (min x.2 10) x.1) rC).trans ((by simp only []; rw [Nat.min_eq_left hl2]) : _ = runK (encA a) a.took.length _)
  rw [eD] at rD
  change raD (encA a) = _ at rD
  have han : raAn (encA a) = a := by
    rw [raAn, rA, rB, rD]
    simp only [Int.toNat_of_nonneg hc0]
  have hlen : ¬ (raD (encA a)).1.p < (encA a).length := by
    rw [rD]
    have := List.drop_eq_nil_iff.1 d4
    simp only []
    omega
  have hst : stD (encA a) (raD (encA a)).1 = 0 := by
    rw [stD, if_neg hlen, rD]
    rfl
  have hcode : ansCode (encA a) = 0 := by
    rw [ansCode, if_pos hst, han, if_pos ⟨h, rfl⟩]
  exact ⟨hcode, by rw [ansOf, if_pos hcode, han], by rw [rC]⟩

theorem codeA_ref {bs : List Int} (hby : Bytes bs) : refCodeA bs = ansCode bs := by
  unfold refCodeA ansCode
  by_cases h : stD bs (raD bs).1 = 0
  · rw [if_pos h, if_pos h]
    cases hr : rightA (raAn bs) with
    | false => rw [if_pos (.inr rfl), if_neg (by rintro ⟨h1, _⟩; exact absurd h1 (by decide))]
    | true =>
      by_cases he : encA (raAn bs) = bs
      · have := (ans_enc hr).2.2
        rw [he] at this
        have hb := (rightA_n hr).2.2.1
        have hno : ¬ (10 < (raC bs).2 ∨ true = false) := by
          rintro (h1 | h1)
          · omega
          · exact absurd h1 (by decide)
        rw [if_neg hno, if_pos (show true = true ∧ encA (raAn bs) = bs from ⟨rfl, he⟩)]
      · rw [if_neg (show ¬ (true = true ∧ encA (raAn bs) = bs) from fun h1 => he h1.2)]
        refine if_pos ?_
        apply Classical.byContradiction
        intro hn
        have hD : (raC bs).2 ≤ 10 := by apply Nat.le_of_not_lt; intro h1; exact hn (.inl h1)
        apply he
        have hd := ra_dec hby h
        have hlen : (raD bs).2.length = (raC bs).2 := (runK_len bs _ _).trans (Nat.min_eq_left hD)
        conv => rhs; rw [hd]
        simp only [encA, raAn, hlen, Int.toNat_natCast, List.append_assoc]
  · rw [if_neg h, if_neg h]
end Go.Proofs.YtlgippliihgcjaaDoor.C
