/- The small functions of cmd: number, text, the literals of Right and RightAnswer, slices.IndexFunc and slices.ContainsFunc at four element types. -/
import Derived.Test.YtlgippliihgcjaaDoorProg
import Derived.Test.YtlgippliihgcjaaDoorWWords
import Derived.StillTailTactics
import Derived.Lib.Hide
import Derived.Outline
namespace Go.Proofs.YtlgippliihgcjaaDoor.C
set_option linter.unusedVariables false
set_option linter.unusedSimpArgs false
open Go.RowKit Go.Proofs.YtlgippliihgcjaaDoorW.PrintWords

/-- A number that may be written. -/
def numOk (n : Int) : Bool := decide (0 ≤ n ∧ n ≤ 4611686018427387904)
/-- A text that may be written. -/
def txtOk (s : ByteArray) : Bool := decide (s.size ≤ 256)

set_option maxHeartbeats 400000 in
theorem number_any (n : Int) (w : World) :
    Calls Tryd.prog 39 #[.int .i64 n] w fun e w' => e = .returned (.bool (numOk n)) ∧ w = w' := by
  by_cases h0 : 0 ≤ n
  · by_cases h1 : n ≤ 4611686018427387904
    · go_enter Tryd.func39, Tryd.ntmps39
      go_wp2
      go_ret
      exact ⟨by simp [numOk]; omega, rfl⟩
    · go_enter Tryd.func39, Tryd.ntmps39
      go_wp2
      go_ret
      exact ⟨by simp [numOk]; omega, rfl⟩
  · go_enter Tryd.func39, Tryd.ntmps39
    go_wp2
    go_ret
    exact ⟨by simp [numOk]; omega, rfl⟩

set_option maxHeartbeats 400000 in
theorem text_any (s : ByteArray) (w : World) :
    Calls Tryd.prog 41 #[.string s] w fun e w' => e = .returned (.bool (txtOk s)) ∧ w = w' := by
  by_cases h1 : s.size ≤ 256
  · go_enter Tryd.func41, Tryd.ntmps41
    go_wp2
    go_ret
    exact ⟨by simp [txtOk]; omega, rfl⟩
  · go_enter Tryd.func41, Tryd.ntmps41
    go_wp2
    go_ret
    exact ⟨by simp [txtOk]; omega, rfl⟩

set_option maxHeartbeats 400000 in
theorem right1_any (a : Addr) (n : Int) (w : World) (hc : w.cell? a = some (.int .i64 n)) :
    Calls Tryd.prog 38 #[.pointer (some a)] w fun e w' => e = .returned (.bool (!numOk n)) ∧ w = w' := by
  go_enter Tryd.func38, Tryd.ntmps38
  go_wp2_with (go_at_call 39; refine (number_any _ _).mono ?_; rintro e w' ⟨rfl, rfl⟩)
  go_ret
  exact ⟨rfl, rfl⟩

set_option maxHeartbeats 400000 in
theorem right2_any (a : Addr) (s : ByteArray) (w : World) (hc : w.cell? a = some (.string s)) :
    Calls Tryd.prog 40 #[.pointer (some a)] w fun e w' => e = .returned (.bool (!txtOk s)) ∧ w = w' := by
  go_enter Tryd.func40, Tryd.ntmps40
  go_wp2_with (go_at_call 41; refine (text_any _ _).mono ?_; rintro e w' ⟨rfl, rfl⟩)
  go_ret
  exact ⟨rfl, rfl⟩

set_option maxHeartbeats 400000 in
theorem right3_any (s : ByteArray) (w : World) :
    Calls Tryd.prog 42 #[.string s] w fun e w' => e = .returned (.bool (!txtOk s)) ∧ w = w' := by
  go_enter Tryd.func42, Tryd.ntmps42
  go_wp2_with (go_at_call 41; refine (text_any _ _).mono ?_; rintro e w' ⟨rfl, rfl⟩)
  go_ret
  exact ⟨rfl, rfl⟩

set_option maxHeartbeats 400000 in
theorem ra1_any (n : Int) (w : World) :
    Calls Tryd.prog 61 #[.int .i64 n] w fun e w' => e = .returned (.bool (!numOk n)) ∧ w = w' := by
  go_enter Tryd.func61, Tryd.ntmps61
  go_wp2_with (go_at_call 39; refine (number_any _ _).mono ?_; rintro e w' ⟨rfl, rfl⟩)
  go_ret
  exact ⟨rfl, rfl⟩

/-- The place of the first that p holds of; -1: none. -/
def idx {α : Type} (p : α → Bool) (l : List α) : Int := match l.findIdx? p with | some i => (i : Int) | none => -1

/-- A function value that tells p of each of vs, in whatever later world. -/
def Tells (F : Nat) (p : Value → Bool) (vs : List Value) (B : Nat) (w : World) : Prop :=
  ∀ x, x ∈ vs → ∀ w1, Below B w w1 → Calls Tryd.prog F #[x] w1 fun e w2 => e = .returned (.bool (p x)) ∧ Below w1.heap.size w1 w2

/-- The cells of a row of one-cell elements. -/
def Cells (w : World) (A : Option Addr) (vs : List Value) : Prop := vs.length ≤ 9223372036854775807 ∧ (0 < vs.length → ∃ ad, A = some ad ∧ ∀ j, (h : j < vs.length) → w.cell? (ad.add j) = some vs[j])

theorem idx_none {α : Type} {p : α → Bool} {l : List α} (h : ∀ x ∈ l, p x = false) : idx p l = -1 := by
  have : l.findIdx? p = none := by rw [List.findIdx?_eq_none_iff]; exact h
  simp [idx, this]
theorem idx_some {α : Type} {p : α → Bool} {l : List α} {k : Nat} {x : α} (hk : l[k]? = some x) (hp : p x = true) (h : ∀ j, (hj : j < l.length) → j < k → p l[j] = false) : idx p l = k := by
  obtain ⟨h2, h3⟩ := List.getElem?_eq_some_iff.1 hk
  have : l.findIdx? p = some k := by
    rw [List.findIdx?_eq_some_iff_getElem]
    exact ⟨h2, by rw [h3]; exact hp, fun j hj => by simp [h j (by omega) hj]⟩
  simp [idx, this]
theorem idx_any {α : Type} (p : α → Bool) (l : List α) : decide (0 ≤ idx p l) = l.any p := by
  unfold idx
  cases h : l.findIdx? p with
  | none =>
    have := List.findIdx?_eq_none_iff.1 h
    simp; intro x hx; simp [this x hx]
  | some i =>
    obtain ⟨hi, hp, _⟩ := List.findIdx?_eq_some_iff_getElem.1 h
    simp
    exact ⟨l[i], List.getElem_mem hi, hp⟩

theorem cells_at {w w1 : World} {A : Option Addr} {vs : List Value} (h : Cells w A vs) (hb : Below w.heap.size w w1) {k : Nat} (hk : k < vs.length) : ∃ ad x, A = some ad ∧ w1.cell? (ad.add k) = some x ∧ vs[k]? = some x := by
  obtain ⟨ad, e, hc⟩ := h.2 (by omega)
  exact ⟨ad, vs[k], e, pw_cell_below hb (hc k hk), List.getElem?_eq_getElem hk⟩

/-- What holds when k have been asked. -/
def IdxAt (p : Value → Bool) (vs : List Value) (k : Nat) : Prop := ∀ j, (h : j < vs.length) → j < k → p vs[j] = false

set_option maxRecDepth 100000 in
set_option maxHeartbeats 1000000 in
theorem indexFunc_pint (F : Nat) (hcall : ∀ x w, Sem.run Tryd.prog (callFunc F #[x]) w = .ok (.enter F #[x]) w) (p : Value → Bool) (A : Option Addr) (vs : List Value) (c : Nat) (w : World) (hc : Cells w A vs) (hp : Tells F p vs w.heap.size w) :
    Calls Tryd.prog 68 #[.slice A vs.length c, .func (.func F) #[] #[]] w fun e w' => e = .returned (.int .i64 (idx p vs)) ∧ Below w.heap.size w w' := by
  have HC := Lib.hid hc
  have HP := Lib.hid hp
  have hl := hc.1
  clear hc hp
  obtain ⟨n, hn⟩ : ∃ n, n = vs.length := ⟨_, rfl⟩
  rw [← hn] at hl ⊢
  have HN := Lib.hid hn
  clear hn
  go_enter Tryd.func68, Tryd.ntmps68
  go_wp2
  go_loopw [5, 8] (fun u i wr => ∃ k : Nat, k ≤ n ∧ i = .int .i64 k ∧ Hid (IdxAt p vs k) ∧ Below w.heap.size w wr) (fun _ i _ => n - (intOf i).toNat)
  case atStart => exact ⟨0, Nat.zero_le _, rfl, fun j _ hj => absurd hj (Nat.not_lt_zero _), Below.refl _ _⟩
  case round =>
    obtain ⟨k, hk, rfl, HI, hb⟩ := hrel
    by_cases hlt : k < n
    · obtain ⟨ad, x, rfl, hcell, hx⟩ := cells_at HC.out hb (by rw [← HN.out]; exact hlt)
      have HX := Lib.hid hx
      clear hx
      go_wp2_with fail
      refine (HP.out x (List.mem_of_getElem? HX.out) _ hb).mono ?_
      rintro e w2 ⟨rfl, hb2⟩
      cases hpx : p x with
      | true =>
        have hfin : idx p vs = k := idx_some HX.out hpx (fun j h hj => HI.out j h hj)
        have HF := Lib.hid hfin
        clear hfin hpx
        go_wp2_with fail
        go_ret
        exact ⟨by rw [HF.out]; rfl, hb.trans (hb2.mono hb.size)⟩
      | false =>
        have HF := Lib.hid hpx
        clear hpx
        go_wp2_with fail
        go_roundw
        case rel =>
          refine ⟨k + 1, by omega, by go_num, fun j h hj => ?_, hb.trans (hb2.mono hb.size)⟩
          rcases Nat.lt_or_ge j k with h1 | h1
          · exact HI.out j h h1
          · obtain rfl : j = k := by omega
            obtain ⟨h2, h3⟩ := List.getElem?_eq_some_iff.1 HX.out
            rw [h3]; exact HF.out
        case measure => simp [intOf]; omega
    · have hfin : idx p vs = -1 := idx_none (fun x hx => by
        obtain ⟨j, hj, rfl⟩ := List.getElem_of_mem hx
        exact HI.out j hj (by have := HN.out; omega))
      have HF := Lib.hid hfin
      clear hfin
      go_wp2_with fail
      go_ret
      exact ⟨by rw [HF.out]; rfl, hb⟩

set_option maxRecDepth 100000 in
set_option maxHeartbeats 1000000 in
theorem containsFunc_pint (F : Nat) (hcall : ∀ x w, Sem.run Tryd.prog (callFunc F #[x]) w = .ok (.enter F #[x]) w) (p : Value → Bool) (A : Option Addr) (vs : List Value) (c : Nat) (w : World) (hc : Cells w A vs) (hp : Tells F p vs w.heap.size w) :
    Calls Tryd.prog 43 #[.slice A vs.length c, .func (.func F) #[] #[]] w fun e w' => e = .returned (.bool (vs.any p)) ∧ Below w.heap.size w w' := by
  have h := indexFunc_pint F hcall p A vs c w hc hp
  have H := Lib.hid h
  have HA := Lib.hid (idx_any p vs)
  clear h hcall hc hp
  go_enter Tryd.func43, Tryd.ntmps43
  go_wp2_with fail
  refine H.out.mono ?_
  rintro e w2 ⟨rfl, hb2⟩
  go_wp2_with fail
  go_ret
  exact ⟨by rw [← HA.out]; rfl, hb2⟩

set_option maxRecDepth 100000 in
set_option maxHeartbeats 1000000 in
theorem indexFunc_pstr (F : Nat) (hcall : ∀ x w, Sem.run Tryd.prog (callFunc F #[x]) w = .ok (.enter F #[x]) w) (p : Value → Bool) (A : Option Addr) (vs : List Value) (c : Nat) (w : World) (hc : Cells w A vs) (hp : Tells F p vs w.heap.size w) :
    Calls Tryd.prog 69 #[.slice A vs.length c, .func (.func F) #[] #[]] w fun e w' => e = .returned (.int .i64 (idx p vs)) ∧ Below w.heap.size w w' := by
  have HC := Lib.hid hc
  have HP := Lib.hid hp
  have hl := hc.1
  clear hc hp
  obtain ⟨n, hn⟩ : ∃ n, n = vs.length := ⟨_, rfl⟩
  rw [← hn] at hl ⊢
  have HN := Lib.hid hn
  clear hn
  go_enter Tryd.func69, Tryd.ntmps69
  go_wp2
  go_loopw [5, 8] (fun u i wr => ∃ k : Nat, k ≤ n ∧ i = .int .i64 k ∧ Hid (IdxAt p vs k) ∧ Below w.heap.size w wr) (fun _ i _ => n - (intOf i).toNat)
  case atStart => exact ⟨0, Nat.zero_le _, rfl, fun j _ hj => absurd hj (Nat.not_lt_zero _), Below.refl _ _⟩
  case round =>
    obtain ⟨k, hk, rfl, HI, hb⟩ := hrel
    by_cases hlt : k < n
    · obtain ⟨ad, x, rfl, hcell, hx⟩ := cells_at HC.out hb (by rw [← HN.out]; exact hlt)
      have HX := Lib.hid hx
      clear hx
      go_wp2_with fail
      refine (HP.out x (List.mem_of_getElem? HX.out) _ hb).mono ?_
      rintro e w2 ⟨rfl, hb2⟩
      cases hpx : p x with
      | true =>
        have hfin : idx p vs = k := idx_some HX.out hpx (fun j h hj => HI.out j h hj)
        have HF := Lib.hid hfin
        clear hfin hpx
        go_wp2_with fail
        go_ret
        exact ⟨by rw [HF.out]; rfl, hb.trans (hb2.mono hb.size)⟩
      | false =>
        have HF := Lib.hid hpx
        clear hpx
        go_wp2_with fail
        go_roundw
        case rel =>
          refine ⟨k + 1, by omega, by go_num, fun j h hj => ?_, hb.trans (hb2.mono hb.size)⟩
          rcases Nat.lt_or_ge j k with h1 | h1
          · exact HI.out j h h1
          · obtain rfl : j = k := by omega
            obtain ⟨h2, h3⟩ := List.getElem?_eq_some_iff.1 HX.out
            rw [h3]; exact HF.out
        case measure => simp [intOf]; omega
    · have hfin : idx p vs = -1 := idx_none (fun x hx => by
        obtain ⟨j, hj, rfl⟩ := List.getElem_of_mem hx
        exact HI.out j hj (by have := HN.out; omega))
      have HF := Lib.hid hfin
      clear hfin
      go_wp2_with fail
      go_ret
      exact ⟨by rw [HF.out]; rfl, hb⟩

set_option maxRecDepth 100000 in
set_option maxHeartbeats 1000000 in
theorem containsFunc_pstr (F : Nat) (hcall : ∀ x w, Sem.run Tryd.prog (callFunc F #[x]) w = .ok (.enter F #[x]) w) (p : Value → Bool) (A : Option Addr) (vs : List Value) (c : Nat) (w : World) (hc : Cells w A vs) (hp : Tells F p vs w.heap.size w) :
    Calls Tryd.prog 44 #[.slice A vs.length c, .func (.func F) #[] #[]] w fun e w' => e = .returned (.bool (vs.any p)) ∧ Below w.heap.size w w' := by
  have h := indexFunc_pstr F hcall p A vs c w hc hp
  have H := Lib.hid h
  have HA := Lib.hid (idx_any p vs)
  clear h hcall hc hp
  go_enter Tryd.func44, Tryd.ntmps44
  go_wp2_with fail
  refine H.out.mono ?_
  rintro e w2 ⟨rfl, hb2⟩
  go_wp2_with fail
  go_ret
  exact ⟨by rw [← HA.out]; rfl, hb2⟩

set_option maxRecDepth 100000 in
set_option maxHeartbeats 1000000 in
theorem indexFunc_str (F : Nat) (hcall : ∀ x w, Sem.run Tryd.prog (callFunc F #[x]) w = .ok (.enter F #[x]) w) (p : Value → Bool) (A : Option Addr) (vs : List Value) (c : Nat) (w : World) (hc : Cells w A vs) (hp : Tells F p vs w.heap.size w) :
    Calls Tryd.prog 70 #[.slice A vs.length c, .func (.func F) #[] #[]] w fun e w' => e = .returned (.int .i64 (idx p vs)) ∧ Below w.heap.size w w' := by
  have HC := Lib.hid hc
  have HP := Lib.hid hp
  have hl := hc.1
  clear hc hp
  obtain ⟨n, hn⟩ : ∃ n, n = vs.length := ⟨_, rfl⟩
  rw [← hn] at hl ⊢
  have HN := Lib.hid hn
  clear hn
  go_enter Tryd.func70, Tryd.ntmps70
  go_wp2
  go_loopw [5, 8] (fun u i wr => ∃ k : Nat, k ≤ n ∧ i = .int .i64 k ∧ Hid (IdxAt p vs k) ∧ Below w.heap.size w wr) (fun _ i _ => n - (intOf i).toNat)
  case atStart => exact ⟨0, Nat.zero_le _, rfl, fun j _ hj => absurd hj (Nat.not_lt_zero _), Below.refl _ _⟩
  case round =>
    obtain ⟨k, hk, rfl, HI, hb⟩ := hrel
    by_cases hlt : k < n
    · obtain ⟨ad, x, rfl, hcell, hx⟩ := cells_at HC.out hb (by rw [← HN.out]; exact hlt)
      have HX := Lib.hid hx
      clear hx
      go_wp2_with fail
      refine (HP.out x (List.mem_of_getElem? HX.out) _ hb).mono ?_
      rintro e w2 ⟨rfl, hb2⟩
      cases hpx : p x with
      | true =>
        have hfin : idx p vs = k := idx_some HX.out hpx (fun j h hj => HI.out j h hj)
        have HF := Lib.hid hfin
        clear hfin hpx
        go_wp2_with fail
        go_ret
        exact ⟨by rw [HF.out]; rfl, hb.trans (hb2.mono hb.size)⟩
      | false =>
        have HF := Lib.hid hpx
        clear hpx
        go_wp2_with fail
        go_roundw
        case rel =>
          refine ⟨k + 1, by omega, by go_num, fun j h hj => ?_, hb.trans (hb2.mono hb.size)⟩
          rcases Nat.lt_or_ge j k with h1 | h1
          · exact HI.out j h h1
          · obtain rfl : j = k := by omega
            obtain ⟨h2, h3⟩ := List.getElem?_eq_some_iff.1 HX.out
            rw [h3]; exact HF.out
        case measure => simp [intOf]; omega
    · have hfin : idx p vs = -1 := idx_none (fun x hx => by
        obtain ⟨j, hj, rfl⟩ := List.getElem_of_mem hx
        exact HI.out j hj (by have := HN.out; omega))
      have HF := Lib.hid hfin
      clear hfin
      go_wp2_with fail
      go_ret
      exact ⟨by rw [HF.out]; rfl, hb⟩

set_option maxRecDepth 100000 in
set_option maxHeartbeats 1000000 in
theorem containsFunc_str (F : Nat) (hcall : ∀ x w, Sem.run Tryd.prog (callFunc F #[x]) w = .ok (.enter F #[x]) w) (p : Value → Bool) (A : Option Addr) (vs : List Value) (c : Nat) (w : World) (hc : Cells w A vs) (hp : Tells F p vs w.heap.size w) :
    Calls Tryd.prog 45 #[.slice A vs.length c, .func (.func F) #[] #[]] w fun e w' => e = .returned (.bool (vs.any p)) ∧ Below w.heap.size w w' := by
  have h := indexFunc_str F hcall p A vs c w hc hp
  have H := Lib.hid h
  have HA := Lib.hid (idx_any p vs)
  clear h hcall hc hp
  go_enter Tryd.func45, Tryd.ntmps45
  go_wp2_with fail
  refine H.out.mono ?_
  rintro e w2 ⟨rfl, hb2⟩
  go_wp2_with fail
  go_ret
  exact ⟨by rw [← HA.out]; rfl, hb2⟩

set_option maxRecDepth 100000 in
set_option maxHeartbeats 1000000 in
theorem indexFunc_int (F : Nat) (hcall : ∀ x w, Sem.run Tryd.prog (callFunc F #[x]) w = .ok (.enter F #[x]) w) (p : Value → Bool) (A : Option Addr) (vs : List Value) (c : Nat) (w : World) (hc : Cells w A vs) (hp : Tells F p vs w.heap.size w) :
    Calls Tryd.prog 80 #[.slice A vs.length c, .func (.func F) #[] #[]] w fun e w' => e = .returned (.int .i64 (idx p vs)) ∧ Below w.heap.size w w' := by
  have HC := Lib.hid hc
  have HP := Lib.hid hp
  have hl := hc.1
  clear hc hp
  obtain ⟨n, hn⟩ : ∃ n, n = vs.length := ⟨_, rfl⟩
  rw [← hn] at hl ⊢
  have HN := Lib.hid hn
  clear hn
  go_enter Tryd.func80, Tryd.ntmps80
  go_wp2
  go_loopw [5, 8] (fun u i wr => ∃ k : Nat, k ≤ n ∧ i = .int .i64 k ∧ Hid (IdxAt p vs k) ∧ Below w.heap.size w wr) (fun _ i _ => n - (intOf i).toNat)
  case atStart => exact ⟨0, Nat.zero_le _, rfl, fun j _ hj => absurd hj (Nat.not_lt_zero _), Below.refl _ _⟩
  case round =>
    obtain ⟨k, hk, rfl, HI, hb⟩ := hrel
    by_cases hlt : k < n
    · obtain ⟨ad, x, rfl, hcell, hx⟩ := cells_at HC.out hb (by rw [← HN.out]; exact hlt)
      have HX := Lib.hid hx
      clear hx
      go_wp2_with fail
      refine (HP.out x (List.mem_of_getElem? HX.out) _ hb).mono ?_
      rintro e w2 ⟨rfl, hb2⟩
      cases hpx : p x with
      | true =>
        have hfin : idx p vs = k := idx_some HX.out hpx (fun j h hj => HI.out j h hj)
        have HF := Lib.hid hfin
        clear hfin hpx
        go_wp2_with fail
        go_ret
        exact ⟨by rw [HF.out]; rfl, hb.trans (hb2.mono hb.size)⟩
      | false =>
        have HF := Lib.hid hpx
        clear hpx
        go_wp2_with fail
        go_roundw
        case rel =>
          refine ⟨k + 1, by omega, by go_num, fun j h hj => ?_, hb.trans (hb2.mono hb.size)⟩
          rcases Nat.lt_or_ge j k with h1 | h1
          · exact HI.out j h h1
          · obtain rfl : j = k := by omega
            obtain ⟨h2, h3⟩ := List.getElem?_eq_some_iff.1 HX.out
            rw [h3]; exact HF.out
        case measure => simp [intOf]; omega
    · have hfin : idx p vs = -1 := idx_none (fun x hx => by
        obtain ⟨j, hj, rfl⟩ := List.getElem_of_mem hx
        exact HI.out j hj (by have := HN.out; omega))
      have HF := Lib.hid hfin
      clear hfin
      go_wp2_with fail
      go_ret
      exact ⟨by rw [HF.out]; rfl, hb⟩

set_option maxRecDepth 100000 in
set_option maxHeartbeats 1000000 in
theorem containsFunc_int (F : Nat) (hcall : ∀ x w, Sem.run Tryd.prog (callFunc F #[x]) w = .ok (.enter F #[x]) w) (p : Value → Bool) (A : Option Addr) (vs : List Value) (c : Nat) (w : World) (hc : Cells w A vs) (hp : Tells F p vs w.heap.size w) :
    Calls Tryd.prog 63 #[.slice A vs.length c, .func (.func F) #[] #[]] w fun e w' => e = .returned (.bool (vs.any p)) ∧ Below w.heap.size w w' := by
  have h := indexFunc_int F hcall p A vs c w hc hp
  have H := Lib.hid h
  have HA := Lib.hid (idx_any p vs)
  clear h hcall hc hp
  go_enter Tryd.func63, Tryd.ntmps63
  go_wp2_with fail
  refine H.out.mono ?_
  rintro e w2 ⟨rfl, hb2⟩
  go_wp2_with fail
  go_ret
  exact ⟨by rw [← HA.out]; rfl, hb2⟩

end Go.Proofs.YtlgippliihgcjaaDoor.C
