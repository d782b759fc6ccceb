/- cmd.Right. -/
import Derived.Test.YtlgippliihgcjaaDoorC1
import Derived.Test.YtlgippliihgcjaaDoorWMore
namespace Go.Proofs.YtlgippliihgcjaaDoor.C
set_option linter.unusedVariables false
set_option linter.unusedSimpArgs false
open Go.RowKit Go.Proofs.YtlgippliihgcjaaDoorW.PrintWords

theorem cells_block {w : World} {b : Nat} {t : TypeId} {vs : List Value} {cs : Array Value} (h : w.heap[b]? = some (.cells cs t (0, 0))) (hv : cs = vs.toArray) (hl : vs.length ≤ 9223372036854775807) : Cells w (some ⟨b, 0, none⟩) vs := by
  refine ⟨hl, fun _ => ⟨_, rfl, fun j hj => ?_⟩⟩
  rw [add_plain, blk_cell h, hv]
  simp [hj]
theorem cells_C {α : Type} {enc : α → Value} {h1 : ∀ x, (enc x).oneCell' = true} {w : World} {A : Option Addr} {xs : List α} (h : (Kd.scalar enc h1).C w A xs.length xs) : Cells w A (xs.map enc) := by
  refine ⟨by rw [List.length_map]; exact Kd.C_max h, fun hp => ?_⟩
  rw [List.length_map] at hp
  obtain ⟨d⟩ : Nonempty α := ⟨xs[0]⟩
  obtain ⟨ad, e, hc⟩ := (Kd.reads_of_C (d := d) h).2.2 hp
  refine ⟨ad, e, fun j hj => ?_⟩
  rw [List.length_map] at hj
  rw [hc j hj]
  simp [List.getD_eq_getElem?_getD, hj]

theorem call_right1 (x : Value) (w : World) : Sem.run Tryd.prog (callFunc 38 #[x]) w = .ok (.enter 38 #[x]) w := by kernel_rfl
theorem call_right2 (x : Value) (w : World) : Sem.run Tryd.prog (callFunc 40 #[x]) w = .ok (.enter 40 #[x]) w := by kernel_rfl
theorem call_right3 (x : Value) (w : World) : Sem.run Tryd.prog (callFunc 42 #[x]) w = .ok (.enter 42 #[x]) w := by kernel_rfl
theorem call_ra1 (x : Value) (w : World) : Sem.run Tryd.prog (callFunc 61 #[x]) w = .ok (.enter 61 #[x]) w := by kernel_rfl

/-- What the literals of Right tell of a pointer: by what it points to in w. -/
def pNum (w : World) : Value → Bool
  | .pointer (some a) => match w.cell? a with | some (.int _ n) => !numOk n | _ => false
  | _ => false
def pTxt (w : World) : Value → Bool
  | .pointer (some a) => match w.cell? a with | some (.string s) => !txtOk s | _ => false
  | _ => false
def pStr : Value → Bool
  | .string s => !txtOk s
  | _ => false
def pInt : Value → Bool
  | .int _ n => !numOk n
  | _ => false

theorem tells1 {w : World} {vs : List Value} (h : ∀ v ∈ vs, ∃ a n, v = .pointer (some a) ∧ w.cell? a = some (.int .i64 n)) : Tells 38 (pNum w) vs w.heap.size w := by
  intro x hx w1 hb
  obtain ⟨a, n, rfl, hc⟩ := h x hx
  refine (right1_any a n w1 (pw_cell_below hb hc)).mono ?_
  rintro e w2 ⟨rfl, rfl⟩
  exact ⟨by simp [pNum, hc], Below.refl _ _⟩
theorem tells2 {w : World} {vs : List Value} (h : ∀ v ∈ vs, ∃ a s, v = .pointer (some a) ∧ w.cell? a = some (.string s)) : Tells 40 (pTxt w) vs w.heap.size w := by
  intro x hx w1 hb
  obtain ⟨a, n, rfl, hc⟩ := h x hx
  refine (right2_any a n w1 (pw_cell_below hb hc)).mono ?_
  rintro e w2 ⟨rfl, rfl⟩
  exact ⟨by simp [pTxt, hc], Below.refl _ _⟩
theorem tells3 {w : World} {ss : List ByteArray} : Tells 42 pStr (ss.map .string) w.heap.size w := by
  intro x hx w1 hb
  obtain ⟨s, _, rfl⟩ := List.mem_map.1 hx
  refine (right3_any s w1).mono ?_
  rintro e w2 ⟨rfl, rfl⟩
  exact ⟨rfl, Below.refl _ _⟩
theorem tells4 {w : World} {ns : List Int} : Tells 61 pInt (ns.map (.int .i64)) w.heap.size w := by
  intro x hx w1 hb
  obtain ⟨s, _, rfl⟩ := List.mem_map.1 hx
  refine (ra1_any s w1).mono ?_
  rintro e w2 ⟨rfl, rfl⟩
  exact ⟨rfl, Below.refl _ _⟩

theorem any_not {α : Type} (l : List α) (f : α → Bool) : l.any (fun x => !f x) = !l.all f := by
  induction l with
  | nil => rfl
  | cons a l ih => simp [List.any_cons, List.all_cons, ih, Bool.not_and]

theorem contains_nums (c : Cm) (bv : Value) (g b : Nat) (w : World) (hg : w.heap[g]? = some (.cells #[.int .i64 c.client, .int .i64 c.req, .int .i64 c.kind, .string c.queue, .int .i64 c.vis, .int .i64 c.ret, .int .i64 c.del, .int .i64 c.win, .int .i64 c.mx, .string c.dead, .bool c.fifo, .string c.body, .string c.group, .string c.key, .string c.receipt, bv, .int .i64 (c.n + 1), .int .i64 c.m] 26 (0, 0)))
    (hb : w.heap[b]? = some (.cells #[.pointer (some ⟨g, 0, none⟩), .pointer (some ⟨g, 1, none⟩), .pointer (some ⟨g, 2, none⟩), .pointer (some ⟨g, 16, none⟩), .pointer (some ⟨g, 17, none⟩), .pointer (some ⟨g, 4, none⟩), .pointer (some ⟨g, 5, none⟩), .pointer (some ⟨g, 6, none⟩), .pointer (some ⟨g, 7, none⟩), .pointer (some ⟨g, 8, none⟩)] 77 (0, 0))) :
    Calls Tryd.prog 43 #[.slice (some ⟨b, 0, none⟩) 10 10, .func (.func 38) #[] #[]] w fun e w' => e = .returned (.bool (!c.nums.all numOk)) ∧ Below w.heap.size w w' := by
  have hcell := fun i => blk_cell hg i
  refine (containsFunc_pint 38 call_right1 (pNum w) (some ⟨b, 0, none⟩) [.pointer (some ⟨g, 0, none⟩), .pointer (some ⟨g, 1, none⟩), .pointer (some ⟨g, 2, none⟩), .pointer (some ⟨g, 16, none⟩), .pointer (some ⟨g, 17, none⟩), .pointer (some ⟨g, 4, none⟩), .pointer (some ⟨g, 5, none⟩), .pointer (some ⟨g, 6, none⟩), .pointer (some ⟨g, 7, none⟩), .pointer (some ⟨g, 8, none⟩)] 10 w (cells_block hb rfl (by simp)) (tells1 ?_)).mono ?_
  · intro v hv
    simp only [List.mem_cons, List.not_mem_nil, or_false] at hv
    rcases hv with rfl | rfl | rfl | rfl | rfl | rfl | rfl | rfl | rfl | rfl <;> exact ⟨_, _, rfl, hcell _⟩
  · rintro e w' ⟨rfl, h⟩
    refine ⟨?_, h⟩
    simp [pNum, hcell, Cm.nums, Bool.not_and]

theorem contains_txts (c : Cm) (bv : Value) (g b : Nat) (w : World) (hg : w.heap[g]? = some (.cells #[.int .i64 c.client, .int .i64 c.req, .int .i64 c.kind, .string c.queue, .int .i64 c.vis, .int .i64 c.ret, .int .i64 c.del, .int .i64 c.win, .int .i64 c.mx, .string c.dead, .bool c.fifo, .string c.body, .string c.group, .string c.key, .string c.receipt, bv, .int .i64 (c.n + 1), .int .i64 c.m] 26 (0, 0)))
    (hb : w.heap[b]? = some (.cells #[.pointer (some ⟨g, 3, none⟩), .pointer (some ⟨g, 9, none⟩), .pointer (some ⟨g, 11, none⟩), .pointer (some ⟨g, 12, none⟩), .pointer (some ⟨g, 13, none⟩), .pointer (some ⟨g, 14, none⟩)] 81 (0, 0))) :
    Calls Tryd.prog 44 #[.slice (some ⟨b, 0, none⟩) 6 6, .func (.func 40) #[] #[]] w fun e w' => e = .returned (.bool (!c.txts.all txtOk)) ∧ Below w.heap.size w w' := by
  have hcell := fun i => blk_cell hg i
  refine (containsFunc_pstr 40 call_right2 (pTxt w) (some ⟨b, 0, none⟩) [.pointer (some ⟨g, 3, none⟩), .pointer (some ⟨g, 9, none⟩), .pointer (some ⟨g, 11, none⟩), .pointer (some ⟨g, 12, none⟩), .pointer (some ⟨g, 13, none⟩), .pointer (some ⟨g, 14, none⟩)] 6 w (cells_block hb rfl (by simp)) (tells2 ?_)).mono ?_
  · intro v hv
    simp only [List.mem_cons, List.not_mem_nil, or_false] at hv
    rcases hv with rfl | rfl | rfl | rfl | rfl | rfl <;> exact ⟨_, _, rfl, hcell _⟩
  · rintro e w' ⟨rfl, h⟩
    refine ⟨?_, h⟩
    simp [pTxt, hcell, Cm.txts, Bool.not_and]

theorem contains_strs (ss : List ByteArray) (A : Option Addr) (k : Nat) (w : World) (h : Kd.string.C w A ss.length ss) :
    Calls Tryd.prog 45 #[.slice A ss.length k, .func (.func 42) #[] #[]] w fun e w' => e = .returned (.bool (!ss.all txtOk)) ∧ Below w.heap.size w w' := by
  have h2 := containsFunc_str 42 call_right3 pStr A (ss.map .string) k w (cells_C h) tells3
  rw [List.length_map] at h2
  refine h2.mono ?_
  rintro e w' ⟨rfl, h⟩
  refine ⟨?_, h⟩
  rw [List.any_map, show (pStr ∘ Value.string) = fun s => !txtOk s from rfl, any_not]

theorem contains_ints (ns : List Int) (A : Option Addr) (k : Nat) (w : World) (h : (Kd.int .i64).C w A ns.length ns) :
    Calls Tryd.prog 63 #[.slice A ns.length k, .func (.func 61) #[] #[]] w fun e w' => e = .returned (.bool (!ns.all numOk)) ∧ Below w.heap.size w w' := by
  have h2 := containsFunc_int 61 call_ra1 pInt A (ns.map (.int .i64)) k w (cells_C h) tells4
  rw [List.length_map] at h2
  refine h2.mono ?_
  rintro e w' ⟨rfl, h⟩
  refine ⟨?_, h⟩
  rw [List.any_map, show (pInt ∘ Value.int .i64) = fun s => !numOk s from rfl, any_not]

end Go.Proofs.YtlgippliihgcjaaDoor.C
