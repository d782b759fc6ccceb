/- CmdAnswers returns true for every input and leaves its argument as it was; the tied card. Conditions: none beyond those of the given card (package errors' laid variable, tied to the program's text). -/
import Derived.Test.YtlgippliihgcjaaDoorL8
import Derived.Test.YtlgippliihgcjaaDoorY0
import Derived.Test.YtlgippliihgcjaaDoorX1
import Derived.Test.YtlgippliihgcjaaDoorA2
import Derived.ChangeSlices
import Derived.Deep.Slices
namespace Go.Proofs.YtlgippliihgcjaaDoor.C
set_option linter.unusedVariables false
set_option linter.unusedSimpArgs false
open Go.ChangeShapes Go.WideShapes Go.ChangeAt Go.RowKit Go.Proofs.YtlgippliihgcjaaDoorW.PrintWords

set_option maxHeartbeats 4000000 in
set_option maxRecDepth 100000 in
/-- One message's cells, opened. -/
theorem open_tk {H : Type} {enc : TypeId × Value → H} {w : World} {base n : Nat} {spare : Nat → Bool} {held : Bool} {cs : List Value} {x : DataW H × List MemPlace}
    (h : DataW.trod enc Tryd.prog w base spare held n 68 cs = some x) : ∃ t : Tk, cs = t.cells := by
  have hC : Tryd.prog.cellsOf 68 = 5 := by kernel_rfl
  have hC1 : Tryd.prog.cellsOf 3 = 1 := by kernel_rfl
  have hC2 : Tryd.prog.cellsOf 9 = 1 := by kernel_rfl
  obtain ⟨xs, m, _, _, hl, hxl, hx⟩ := DataW.trod_struct Tryd.underlying68 h
  rw [hC] at hl
  match cs, hl with
  | [c0, c1, c2, c3, c4], _ =>
  obtain ⟨y0, e0⟩ := part_of hx hxl 0 3 0 1 _ rfl rfl rfl hC1 [c0] rfl
  obtain ⟨y1, e1⟩ := part_of hx hxl 1 3 1 1 _ rfl rfl rfl hC1 [c1] rfl
  obtain ⟨y2, e2⟩ := part_of hx hxl 2 9 2 1 _ rfl rfl rfl hC2 [c2] rfl
  obtain ⟨y3, e3⟩ := part_of hx hxl 3 9 3 1 _ rfl rfl rfl hC2 [c3] rfl
  obtain ⟨y4, e4⟩ := part_of hx hxl 4 9 4 1 _ rfl rfl rfl hC2 [c4] rfl
  obtain ⟨i0, q0, _⟩ := DataW.trod_int Tryd.underlying3 e0
  obtain ⟨i1, q1, _⟩ := DataW.trod_int Tryd.underlying3 e1
  obtain ⟨s2, q2, _⟩ := DataW.trod_string Tryd.underlying9 e2
  obtain ⟨s3, q3, _⟩ := DataW.trod_string Tryd.underlying9 e3
  obtain ⟨s4, q4, _⟩ := DataW.trod_string Tryd.underlying9 e4
  simp only [List.cons.injEq, and_true] at q0 q1 q2 q3 q4
  subst q0 q1 q2 q3 q4
  exact ⟨{ id := i0, count := i1, receipt := s2, body := s3, group := s4 }, rfl⟩

theorem tk_choose {n : Nat} {p : Nat → Tk → Prop} (h : ∀ i, i < n → ∃ t, p i t) : ∃ l : List Tk, l.length = n ∧ ∀ i t, l[i]? = some t → p i t := by
  induction n with
  | zero => exact ⟨[], rfl, fun i t h => by simp at h⟩
  | succ n ih =>
    obtain ⟨l, hl, hp⟩ := ih fun i hi => h i (by omega)
    obtain ⟨t, ht⟩ := h n (by omega)
    refine ⟨l ++ [t], by simp [hl], fun i u hu => ?_⟩
    by_cases hi : i < n
    · rw [List.getElem?_append_left (by omega)] at hu
      exact hp i u hu
    · have hlt := (List.getElem?_eq_some_iff.1 hu).1
      rw [List.length_append, List.length_singleton, hl] at hlt
      obtain rfl : i = n := by omega
      rw [List.getElem?_append_right (by omega), hl, Nat.sub_self] at hu
      obtain rfl : t = u := by simpa using hu
      exact ht

set_option maxHeartbeats 4000000 in
set_option maxRecDepth 100000 in
/-- Messages, opened. -/
theorem open_tks {H : Type} {enc : TypeId × Value → H} {w : World} {base n : Nat} {spare : Nat → Bool} {held : Bool} {c : Value} {x : DataW H × List MemPlace}
    (h : DataW.trod enc Tryd.prog w base spare held n 54 [c] = some x) : ∃ (A : Option Addr) (l : List Tk) (k : Nat), c = .slice A l.length k ∧ TRead w A l := by
  have hC : Tryd.prog.cellsOf 68 = 5 := by kernel_rfl
  rcases Go.Deep.open_slice Tryd.underlying54 h with ⟨h1, _⟩ | ⟨a, len, cap, m, m2, D, Pl, h1, _, hlc, hcm, hm, _, hx⟩
  · exact ⟨none, [], 0, (List.cons.inj h1).1, Kd.C_nil _ _⟩
  · have hlm : len ≤ m := by rw [hm]; split <;> omega
    obtain ⟨l, hl, hp⟩ := tk_choose (n := len) (p := fun i t => ∀ j, j < 5 → w.cell? ((a.add (i * 5)).add j) = t.cells[j]?) fun i hi => by
      obtain ⟨cs, hcs, htr⟩ := hx i (by omega)
      obtain ⟨t, rfl⟩ := open_tk htr
      rw [hC] at hcs
      exact ⟨t, fun j hj => (World.cells?_some hcs).2.2 j hj⟩
    refine ⟨some a, l, cap, by rw [hl]; exact (List.cons.inj h1).1, rfl, ?_, fun _ => ⟨a, rfl, fun j t hj => ⟨t.cells, rfl, kTk_K w t, fun i u hu => ?_⟩⟩⟩
    · unfold maxLen at hcm
      rw [hl]; omega
    · have hi : i < 5 := (List.getElem?_eq_some_iff.1 hu).1
      have := hp j t hj i hi
      rw [Addr.add_add] at this
      exact this.trans hu

set_option maxHeartbeats 4000000 in
set_option maxRecDepth 100000 in
/-- Numbers, opened. -/
theorem open_nums {H : Type} {enc : TypeId × Value → H} {w : World} {base n : Nat} {spare : Nat → Bool} {held : Bool} {c : Value} {x : DataW H × List MemPlace}
    (h : DataW.trod enc Tryd.prog w base spare held n 53 [c] = some x) : ∃ (A : Option Addr) (l : List Int) (k : Nat), c = .slice A l.length k ∧ IRead w A l := by
  have hC : Tryd.prog.cellsOf 3 = 1 := by kernel_rfl
  rcases open_ints Tryd.underlying53 Tryd.underlying3 hC h with ⟨h1, _⟩ | ⟨a, len, cap, zs, h1, _, hlc, hcm, hzl, _, hc, _⟩
  · exact ⟨none, [], 0, (List.cons.inj h1).1, Kd.C_nil _ _⟩
  · have hlm : len ≤ zs.length := by rw [hzl]; split <;> omega
    have hl : (zs.take len).length = len := by rw [List.length_take]; omega
    unfold maxLen at hcm
    refine ⟨some a, zs.take len, cap, by rw [hl]; exact (List.cons.inj h1).1, ?_⟩
    refine Kd.C_of_reads (d := 0) ⟨rfl, by rw [hl]; omega, fun _ => ⟨a, rfl, fun j hj => ?_⟩⟩
    rw [hl] at hj
    rw [hc j (by omega), List.getD_eq_getElem?_getD, List.getD_eq_getElem?_getD, List.getElem?_take_of_lt hj]

set_option maxHeartbeats 4000000 in
set_option maxRecDepth 100000 in
/-- An answer that came as an argument, opened. -/
theorem open_ans {H : Type} {enc : TypeId × Value → H} {w : World} {r : Reach} {b0 base : Nat} {spare : Nat → Bool} {held : Bool} {v : Value} {d : DataW H} {p : List MemPlace}
    (hv : Value.okWide Tryd.prog w r b0 56 v) (h : DataW.Trod enc Tryd.prog w base spare held 56 v d p) :
    ∃ (a : An) (A1 A2 : Option Addr) (k1 k2 : Nat), v = .agg #[.int .i64 a.code, .slice A1 a.ids.length k1, .slice A2 a.took.length k2] ∧ IRead w A1 a.ids ∧ TRead w A2 a.took := by
  obtain ⟨cs, rfl, hsz⟩ := okWide_struct Tryd.underlying56 hv
  have hC : Tryd.prog.cellsOf 56 = 3 := by kernel_rfl
  have hC1 : Tryd.prog.cellsOf 3 = 1 := by kernel_rfl
  have hC2 : Tryd.prog.cellsOf 53 = 1 := by kernel_rfl
  have hC3 : Tryd.prog.cellsOf 54 = 1 := by kernel_rfl
  rw [hC] at hsz
  obtain ⟨fuel, hf⟩ := h
  have hcl : (Value.agg cs).cells.toList = cs.toList := rfl
  rw [hcl] at hf
  obtain ⟨l⟩ := cs
  simp only [List.size_toArray] at hsz
  match l, hsz with
  | [c0, c1, c2], _ =>
  obtain ⟨xs, n, _, _, _, hxl, hx⟩ := DataW.trod_struct Tryd.underlying56 hf
  obtain ⟨y0, e0⟩ := part_of hx hxl 0 3 0 1 _ rfl rfl rfl hC1 [c0] rfl
  obtain ⟨y1, e1⟩ := part_of hx hxl 1 53 1 1 _ rfl rfl rfl hC2 [c1] rfl
  obtain ⟨y2, e2⟩ := part_of hx hxl 2 54 2 1 _ rfl rfl rfl hC3 [c2] rfl
  obtain ⟨i0, q0, _⟩ := DataW.trod_int Tryd.underlying3 e0
  obtain ⟨A1, l1, k1, rfl, h1⟩ := open_nums e1
  obtain ⟨A2, l2, k2, rfl, h2⟩ := open_tks e2
  obtain rfl := (List.cons.inj q0).1
  exact ⟨{ code := i0, ids := l1, took := l2 }, A1, A2, k1, k2, rfl, h1, h2⟩

set_option maxRecDepth 100000 in
theorem cmdAnswers_lifted (os : Os) (started : os.Started) (H : Type) (enc : TypeId × Value → H) :
    ReturnsInHanded {} Tryd.checked os 7 .any (fun w args => (Rows.cmdAnswersSpec.pre enc Tryd.prog Tryd.f7 [] false w args ∧ laidMetH Tryd.prog laidL w) ∧ sizedMet enc Tryd.prog Tryd.f7 (OpenSpec.ofChange Rows.cmdAnswersSpec) false w args)
      (Rows.cmdAnswersSpec.post enc Tryd.prog Tryd.f7 false true false false) := by
  refine returnsInHanded_of_change_and (C := Tryd.checked) (X := fun w _ => laidMetH Tryd.prog laidL w) (fun _ _ _ hh h => h.of_heap hh) own started (by kernel_rfl) Tryd.func7
    (ChangeSpec.witness_at (enc := enc) (C := Tryd.checked) (os := os) (X := fun w _ => laidMetH Tryd.prog laidL w) false (laidWorld os) #[.agg #[.int .i64 0, .slice none 0 0, .slice none 0 0]] 12 rfl (by kernel_rfl) (by kernel_rfl) (by kernel_rfl) (by kernel_rfl) (by kernel_rfl) (laidWorld_met os _)) ?_
  intro W base args ds gs before hval0 hW _ _ hL _
  have hval : ∀ (j : Nat) t v, Tryd.f7.params[j]? = some t → args[j]? = some v → Value.okWide Tryd.prog W .any base t v := hval0
  have hW' := hW
  obtain ⟨p, q, hA0, hV, rfl, hfz, hnd⟩ := hW
  have hA : DataW.TrodAll enc Tryd.prog W 0 (fun _ => true) true Tryd.f7.params.toList args.toList ds p := hA0
  rw [Tryd.params7] at hA hval
  obtain ⟨v0, d0, rfl, rfl, h0⟩ := trodAll_one hA
  obtain ⟨rfl, rfl⟩ := trodVars_none hV
  have k0 := h0
  have lt0 : ∀ x ∈ p, x.block < W.heap.size := by obtain ⟨m, hm⟩ := k0; exact DataW.trod_lt m _ _ _ hm
  obtain ⟨a, A1, A2, k1, k2, rfl, hI, hT⟩ := open_ans (hval 0 56 v0 rfl rfl) h0
  have hg := handle_of_laid hL
  clear hA0 hval0
  refine (answers_any a A1 A2 k1 k2 W hI hT hg).mono fun e W' ⟨he, bel⟩ => ?_
  subst he
  exact ⟨_, rfl, _, _, _, [], _, [], hW', trodAll_mk1 (shut_bool Tryd.underlying4 _), trodAll_cons_mk (Below.trod laidOut (by kernel_rfl) (of_decide_eq_true (by kernel_rfl)) k0 bel lt0) trodAll_mk0, rfl, bel.frame _, fun h => by cases h⟩

theorem cmdAnswers_over : Rows.CmdAnswersSaid :=
  OpenClaim.holds_of_wide 7 Tryd.f7 rfl rfl rfl rfl rfl rfl rfl ⟨rfl, rfl, rfl, rfl, rfl⟩ rfl rfl rfl rfl rfl (by kernel_rfl) Tryd.func7 (by kernel_rfl)
    (of_decide_eq_true (by kernel_rfl)) (by unfold Func.isWrapper; first | (rw [if_pos (by decide +kernel)]; kernel_rfl) | (rw [if_neg (by decide +kernel)]; exact ⟨rfl, rfl⟩))
    (fun os started H enc _ => cmdAnswers_lifted os started H enc)
end Go.Proofs.YtlgippliihgcjaaDoor.C
namespace Go.Proofs.YtlgippliihgcjaaDoor
open Go
theorem cmdAnswers_card : Rows.CmdAnswersCardSaid :=
  Claim7.holds_tied_plain_at .later [] [.handle] true Rows.cmdAnswersCard.stood.harness true
    C.cmdAnswers_over (fun _ h => by cases h) (by kernel_rfl) (fun _ h => by cases h) cmdAnswers_row_tie rfl ⟨rfl, rfl⟩ (by kernel_rfl) rfl
    (fun f fn hf hfn => by
      obtain rfl : f = 7 := Option.some.inj ((show Tryd.prog.funcNamed "daisychain/daisychainlaw10.CmdAnswers" = some 7 by kernel_rfl).symm.trans hf) |>.symm
      obtain rfl : fn = Tryd.f7 := (Option.some.inj (Tryd.func7.symm.trans hfn)).symm
      exact ⟨by kernel_rfl, fun j t ht => by
        rw [Tryd.params7] at ht
        have h3 : t = 56 := by
          rcases j with _ | j
          · simpa using ht.symm
          · simp at ht
        subst h3; exact (show Tryd.prog.wantsStandIn 56 = false by kernel_rfl)⟩)
    (by kernel_rfl)
#print axioms cmdAnswers_card
end Go.Proofs.YtlgippliihgcjaaDoor
