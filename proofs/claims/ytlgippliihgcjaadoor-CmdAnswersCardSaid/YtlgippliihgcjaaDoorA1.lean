/- coil.Nums; the literal over a message, slices.IndexFunc and ContainsFunc over messages; cmd.RightAnswer. -/
import Derived.Test.YtlgippliihgcjaaDoorC6
import Derived.Test.YtlgippliihgcjaaDoorWMore
namespace Go.Proofs.YtlgippliihgcjaaDoor.C
set_option linter.unusedVariables false
set_option linter.unusedSimpArgs false
open Go.RowKit Go.Proofs.YtlgippliihgcjaaDoorW.PrintWords

/-- A message that was received. -/
structure Tk where
  id : Int
  count : Int
  receipt : ByteArray
  body : ByteArray
  group : ByteArray
def Tk.cells (t : Tk) : List Value := [.int .i64 t.id, .int .i64 t.count, .string t.receipt, .string t.body, .string t.group]
def kTk : Kd Tk := Kd.iso (Kd.pair (Kd.int .i64) (Kd.pair (Kd.int .i64) (Kd.pair Kd.string (Kd.pair Kd.string Kd.string)))) (fun x : Tk => (x.id, x.count, x.receipt, x.body, x.group))
theorem kTk_sz : kTk.sz = 5 := rfl
theorem kTk_open {w : World} {x : Tk} {cs : List Value} (h : kTk.K w x cs) : cs = x.cells := by
  obtain ⟨_, _, rfl, rfl, ⟨_, _, rfl, rfl, ⟨_, _, rfl, rfl, ⟨_, _, rfl, rfl, rfl⟩⟩⟩⟩ := h
  rfl
theorem kTk_K (w : World) (x : Tk) : kTk.K w x x.cells := ⟨[.int .i64 x.id], _, rfl, rfl, ⟨[.int .i64 x.count], _, rfl, rfl, ⟨[.string x.receipt], _, rfl, rfl, ⟨[.string x.body], _, rfl, rfl, rfl⟩⟩⟩⟩
theorem kTk_M (w : World) (base : Nat) (ok : Nat → Prop) (x : Tk) : kTk.M w base ok x x.cells := ⟨[.int .i64 x.id], _, rfl, rfl, ⟨[.int .i64 x.count], _, rfl, rfl, ⟨[.string x.receipt], _, rfl, rfl, ⟨[.string x.body], _, rfl, rfl, rfl⟩⟩⟩⟩
/-- A slice of messages that is read. -/
abbrev TRead (w : World) (A : Option Addr) (l : List Tk) : Prop := kTk.C w A l.length l
theorem TRead.at_ {w : World} {A : Option Addr} {l : List Tk} (h : TRead w A l) {k : Nat} {x : Tk} (hk : l[k]? = some x) : ∃ ad, A = some ad ∧ w.cell? (ad.add (k * 5)) = some (.int .i64 x.id) ∧ w.cell? ⟨(ad.add (k * 5)).block, (ad.add (k * 5)).off + 1, none⟩ = some (.int .i64 x.count) ∧
    w.cell? ⟨(ad.add (k * 5)).block, (ad.add (k * 5)).off + 2, none⟩ = some (.string x.receipt) ∧ w.cell? ⟨(ad.add (k * 5)).block, (ad.add (k * 5)).off + 3, none⟩ = some (.string x.body) ∧ w.cell? ⟨(ad.add (k * 5)).block, (ad.add (k * 5)).off + 4, none⟩ = some (.string x.group) := by
  obtain ⟨hlt, hx⟩ := List.getElem?_eq_some_iff.1 hk
  obtain ⟨ad, c, e, _, hK, hc⟩ := Kd.C_get h x (k : Int) (by omega) (by omega)
  rw [Int.toNat_natCast, List.getD_eq_getElem?_getD, hk] at hK
  have hcs := kTk_open hK
  subst hcs
  have hc0 : ∀ j u, x.cells[j]? = some u → w.cell? (ad.add (k * 5 + j)) = some u := hc
  exact ⟨ad, e, hc0 0 _ rfl, by rw [← add_field _ _ 1 (by omega)]; exact hc0 1 _ rfl, by rw [← add_field _ _ 2 (by omega)]; exact hc0 2 _ rfl, by rw [← add_field _ _ 3 (by omega)]; exact hc0 3 _ rfl, by rw [← add_field _ _ 4 (by omega)]; exact hc0 4 _ rfl⟩

/-- A message that may be written. -/
def tkOk (t : Tk) : Bool := numOk t.id && (numOk t.count && (txtOk t.receipt && (txtOk t.body && txtOk t.group)))

set_option maxHeartbeats 4000000 in
set_option maxRecDepth 100000 in
theorem ra2_any (t : Tk) (w : World) :
    Calls Tryd.prog 62 #[.agg #[.int .i64 t.id, .int .i64 t.count, .string t.receipt, .string t.body, .string t.group]] w fun e w' => e = .returned (.bool (!tkOk t)) ∧ Below w.heap.size w w' := by
  have HT : Hid (tkOk t = (numOk t.id && (numOk t.count && (txtOk t.receipt && (txtOk t.body && txtOk t.group))))) := Lib.hid rfl
  have HB := Lib.hid (below_alloc (Below.refl w.heap.size w) (.cells #[.int .i64 t.id, .int .i64 t.count, .string t.receipt, .string t.body, .string t.group] 68))
  go_enter Tryd.func62, Tryd.ntmps62
  go_wp2_with fail
  refine (number_any _ _).mono ?_
  rintro e w1 ⟨rfl, rfl⟩
  generalize numOk t.id = q1 at HT ⊢
  cases q1 with
  | false => go_wp2_with fail; go_ret; exact ⟨by rw [HT.out]; rfl, HB.out⟩
  | true =>
  go_wp2_with fail
  refine (number_any _ _).mono ?_
  rintro e w1 ⟨rfl, rfl⟩
  generalize numOk t.count = q2 at HT ⊢
  cases q2 with
  | false => go_wp2_with fail; go_ret; exact ⟨by rw [HT.out]; rfl, HB.out⟩
  | true =>
  go_wp2_with fail
  refine (text_any _ _).mono ?_
  rintro e w1 ⟨rfl, rfl⟩
  generalize txtOk t.receipt = q3 at HT ⊢
  cases q3 with
  | false => go_wp2_with fail; go_ret; exact ⟨by rw [HT.out]; rfl, HB.out⟩
  | true =>
  go_wp2_with fail
  refine (text_any _ _).mono ?_
  rintro e w1 ⟨rfl, rfl⟩
  generalize txtOk t.body = q4 at HT ⊢
  cases q4 with
  | false => go_wp2_with fail; go_ret; exact ⟨by rw [HT.out]; rfl, HB.out⟩
  | true =>
  go_wp2_with fail
  refine (text_any _ _).mono ?_
  rintro e w1 ⟨rfl, rfl⟩
  generalize txtOk t.group = q5 at HT ⊢
  cases q5 with
  | false => go_wp2_with fail; go_ret; exact ⟨by rw [HT.out]; rfl, HB.out⟩
  | true => go_wp2_with fail; go_ret; exact ⟨by rw [HT.out]; rfl, HB.out⟩

/-- What holds when k have been asked. -/
def TkAt (p : Tk → Bool) (l : List Tk) (k : Nat) : Prop := ∀ j, (h : j < l.length) → j < k → p l[j] = false

set_option maxRecDepth 100000 in
set_option maxHeartbeats 1000000 in
theorem indexFunc_took (A : Option Addr) (l : List Tk) (c : Nat) (w : World) (hc : TRead w A l) :
    Calls Tryd.prog 81 #[.slice A l.length c, .func (.func 62) #[] #[]] w fun e w' => e = .returned (.int .i64 (idx (fun t => !tkOk t) l)) ∧ Below w.heap.size w w' := by
  have HC := Lib.hid hc
  have hl := Kd.C_max hc
  clear hc
  obtain ⟨n, hn⟩ : ∃ n, n = l.length := ⟨_, rfl⟩
  rw [← hn] at hl ⊢
  have HN := Lib.hid hn
  clear hn
  go_enter Tryd.func81, Tryd.ntmps81
  go_wp2
  go_loopw [5, 8] (fun u i wr => ∃ k : Nat, k ≤ n ∧ i = .int .i64 k ∧ Hid (TkAt (fun t => !tkOk t) l k) ∧ Below w.heap.size w wr) (fun _ i _ => n - (intOf i).toNat)
  case atStart => exact ⟨0, Nat.zero_le _, rfl, fun j _ hj => absurd hj (Nat.not_lt_zero _), Below.refl _ _⟩
  case round =>
    obtain ⟨k, hk, rfl, HI, hb⟩ := hrel
    by_cases hlt : k < n
    · obtain ⟨x, hx⟩ : ∃ x, l[k]? = some x := ⟨_, List.getElem?_eq_getElem (by rw [← HN.out]; exact hlt)⟩
      obtain ⟨ad, rfl, c0, c1, c2, c3, c4⟩ := TRead.at_ (Kd.C_below HC.out hb) hx
      have HX := Lib.hid hx
      clear hx
      go_wp2_with fail
      refine (ra2_any x _).mono ?_
      rintro e w2 ⟨rfl, hb2⟩
      clear c0 c1 c2 c3 c4
      cases hpx : (!tkOk x) with
      | true =>
        have hfin : idx (fun t => !tkOk t) l = k := idx_some HX.out hpx (fun j h hj => HI.out j h hj)
        have HF := Lib.hid hfin
        clear hfin hpx
        go_wp2_with fail
        go_ret
        exact ⟨by rw [HF.out]; rfl, hb.trans (hb2.mono hb.size)⟩
      | false =>
        have HF := Lib.hid hpx
        clear hpx
        go_wp2_with fail
        go_roundw
        case rel =>
          refine ⟨k + 1, by omega, by go_num, fun j h hj => ?_, hb.trans (hb2.mono hb.size)⟩
          rcases Nat.lt_or_ge j k with h1 | h1
          · exact HI.out j h h1
          · obtain rfl : j = k := by omega
            obtain ⟨h2, h3⟩ := List.getElem?_eq_some_iff.1 HX.out
            rw [h3]; exact HF.out
        case measure => simp [intOf]; omega
    · have hfin : idx (fun t => !tkOk t) l = -1 := idx_none (fun x hx => by
        obtain ⟨j, hj, rfl⟩ := List.getElem_of_mem hx
        exact HI.out j hj (by have := HN.out; omega))
      have HF := Lib.hid hfin
      clear hfin
      go_wp2_with fail
      go_ret
      exact ⟨by rw [HF.out]; rfl, hb⟩

set_option maxRecDepth 100000 in
set_option maxHeartbeats 1000000 in
theorem containsFunc_took (A : Option Addr) (l : List Tk) (c : Nat) (w : World) (hc : TRead w A l) :
    Calls Tryd.prog 64 #[.slice A l.length c, .func (.func 62) #[] #[]] w fun e w' => e = .returned (.bool (!l.all tkOk)) ∧ Below w.heap.size w w' := by
  have H := Lib.hid (indexFunc_took A l c w hc)
  have HA := Lib.hid ((idx_any (fun t => !tkOk t) l).trans (any_not l tkOk))
  clear hc
  go_enter Tryd.func64, Tryd.ntmps64
  go_wp2_with fail
  refine H.out.mono ?_
  rintro e w2 ⟨rfl, hb2⟩
  go_wp2_with fail
  go_ret
  exact ⟨by rw [← HA.out]; rfl, hb2⟩

end Go.Proofs.YtlgippliihgcjaaDoor.C
