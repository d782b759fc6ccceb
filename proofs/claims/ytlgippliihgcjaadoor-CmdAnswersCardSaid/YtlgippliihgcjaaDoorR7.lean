/- What is read of a command: the plain functions. -/
import Derived.Test.YtlgippliihgcjaaDoorR6
import Derived.Test.YtlgippliihgcjaaDoorC6
namespace Go.Proofs.YtlgippliihgcjaaDoor.C
set_option linter.unusedVariables false
set_option linter.unusedSimpArgs false
open Go.RowKit Go.Proofs.YtlgippliihgcjaaDoorW.PrintWords

/-- So many numbers, one behind the other. -/
def runN (bs : List Int) : Nat → RS → RS × List Int
  | 0, s => (s, [])
  | m + 1, s => ((stN bs (runN bs m s).1).1, (runN bs m s).2 ++ [((stN bs (runN bs m s).1).2 : Int)])
/-- So many texts, one behind the other. -/
def runT (bs : List Int) : Nat → RS → RS × List ByteArray
  | 0, s => (s, [])
  | m + 1, s => ((stT bs 256 (runT bs m s).1).1, (runT bs m s).2 ++ [(stT bs 256 (runT bs m s).1).2])
theorem runN_len (bs : List Int) : ∀ m s, (runN bs m s).2.length = m := by
  intro m; induction m with
  | zero => intro s; rfl
  | succ m ih => intro s; simp [runN, ih]
theorem runT_len (bs : List Int) : ∀ m s, (runT bs m s).2.length = m := by
  intro m; induction m with
  | zero => intro s; rfl
  | succ m ih => intro s; simp [runT, ih]
theorem stN_le {bs : List Int} {s : RS} (h : s.p ≤ bs.length) : (stN bs s).1.p ≤ bs.length := by
  unfold stN; split
  · split
    · exact readN_le h
    · exact h
  · exact h
theorem stN_bd (bs : List Int) (s : RS) : (stN bs s).2 ≤ 9223372036854775807 := by
  unfold stN; split
  · exact readN_bound bs s.p
  · simp
theorem stT_le {bs : List Int} {m : Nat} {s : RS} (h : s.p ≤ bs.length) : (stT bs m s).1.p ≤ bs.length := by
  have h1 := readN_le h
  unfold stT
  repeat' split
  all_goals first | exact h | (show (readN bs s.p).2.2 + (readN bs s.p).2.1 ≤ _; omega)
theorem runN_le {bs : List Int} : ∀ m {s : RS}, s.p ≤ bs.length → (runN bs m s).1.p ≤ bs.length := by
  intro m; induction m with
  | zero => intro s h; exact h
  | succ m ih => intro s h; exact stN_le (ih h)
theorem runT_le {bs : List Int} : ∀ m {s : RS}, s.p ≤ bs.length → (runT bs m s).1.p ≤ bs.length := by
  intro m; induction m with
  | zero => intro s h; exact h
  | succ m ih => intro s h; exact stT_le (ih h)
theorem runN_bd {bs : List Int} : ∀ m {s : RS}, ∀ x ∈ (runN bs m s).2, (0 : Int) ≤ x ∧ x ≤ 9223372036854775807 := by
  intro m; induction m with
  | zero => intro s x h; simp [runN] at h
  | succ m ih =>
    intro s x h
    simp only [runN, List.mem_append, List.mem_singleton] at h
    rcases h with h | rfl
    · exact ih x h
    · have := stN_bd bs (runN bs m s).1
      omega

/-- A command of numbers and texts. -/
def mkC (l : List Int) (f : Bool) (t : List ByteArray) (b : List ByteArray) : Cm :=
  { client := l.getD 0 0, req := l.getD 1 0, kind := l.getD 2 0, n := l.getD 3 0, m := l.getD 4 0, vis := l.getD 5 0, ret := l.getD 6 0, del := l.getD 7 0, win := l.getD 8 0, mx := l.getD 9 0, fifo := f,
    queue := t.getD 0 ⟨#[]⟩, dead := t.getD 1 ⟨#[]⟩, body := t.getD 2 ⟨#[]⟩, group := t.getD 3 ⟨#[]⟩, key := t.getD 4 ⟨#[]⟩, receipt := t.getD 5 ⟨#[]⟩, bodies := b }
def fixN (l : List Int) : List Int := l.set 3 (l.getD 3 0 - 1)

def rdA (bs : List Int) : RS × List Int := runN bs 10 ⟨0, 0⟩
def rdB (bs : List Int) : RS × Nat := stN bs (rdA bs).1
def rdC (bs : List Int) : RS × List ByteArray := runT bs 6 (rdB bs).1
def rdD (bs : List Int) : RS × Nat := stN bs (rdC bs).1
def rdE (bs : List Int) : RS × List ByteArray := runT bs (min (rdD bs).2 10) (rdD bs).1
/-- What stands in the command behind all reading. -/
def rdCm (bs : List Int) : Cm := mkC (fixN (rdA bs).2) (((rdB bs).2 : Int) == 1) (rdC bs).2 (rdE bs).2
def zeroCm : Cm := mkC [] false [] []
/-- Why bytes are no command's; 0: they are one's. -/
def readCode (bs : List Int) : Int := if stD bs (rdE bs).1 = 0 then (if right (rdCm bs) = true ∧ encB (rdCm bs) = bs then 0 else 2) else stD bs (rdE bs).1
def readCm (bs : List Int) : Cm := if readCode bs = 0 then rdCm bs else zeroCm

/-- A command's cells. -/
def cvR (c : Cm) (bv : Value) : Array Value := #[.int .i64 c.client, .int .i64 c.req, .int .i64 c.kind, .string c.queue, .int .i64 c.vis, .int .i64 c.ret, .int .i64 c.del, .int .i64 c.win, .int .i64 c.mx, .string c.dead, .bool c.fifo, .string c.body, .string c.group, .string c.key, .string c.receipt, bv, .int .i64 c.n, .int .i64 c.m]
def nOffs : List Nat := [0, 1, 2, 16, 17, 4, 5, 6, 7, 8]
def tOffs : List Nat := [3, 9, 11, 12, 13, 14]

theorem nums_ptr {w : World} {g b k : Nat} (hb : w.heap[b]? = some (.cells #[.pointer (some ⟨g, 0, none⟩), .pointer (some ⟨g, 1, none⟩), .pointer (some ⟨g, 2, none⟩), .pointer (some ⟨g, 16, none⟩), .pointer (some ⟨g, 17, none⟩), .pointer (some ⟨g, 4, none⟩), .pointer (some ⟨g, 5, none⟩), .pointer (some ⟨g, 6, none⟩), .pointer (some ⟨g, 7, none⟩), .pointer (some ⟨g, 8, none⟩)] 77 (0, 0))) (hk : k < 10) :
    ∃ o, nOffs[k]? = some o ∧ w.cell? ⟨b, k, none⟩ = some (.pointer (some ⟨g, o, none⟩)) := by
  have h2 := fun i => blk_cell hb i
  have : k = 0 ∨ k = 1 ∨ k = 2 ∨ k = 3 ∨ k = 4 ∨ k = 5 ∨ k = 6 ∨ k = 7 ∨ k = 8 ∨ k = 9 := by omega
  rcases this with rfl | rfl | rfl | rfl | rfl | rfl | rfl | rfl | rfl | rfl <;> exact ⟨_, rfl, (h2 _).trans rfl⟩
theorem txts_ptr {w : World} {g b k : Nat} (hb : w.heap[b]? = some (.cells #[.pointer (some ⟨g, 3, none⟩), .pointer (some ⟨g, 9, none⟩), .pointer (some ⟨g, 11, none⟩), .pointer (some ⟨g, 12, none⟩), .pointer (some ⟨g, 13, none⟩), .pointer (some ⟨g, 14, none⟩)] 81 (0, 0))) (hk : k < 6) :
    ∃ o, tOffs[k]? = some o ∧ w.cell? ⟨b, k, none⟩ = some (.pointer (some ⟨g, o, none⟩)) := by
  have h2 := fun i => blk_cell hb i
  have : k = 0 ∨ k = 1 ∨ k = 2 ∨ k = 3 ∨ k = 4 ∨ k = 5 := by omega
  rcases this with rfl | rfl | rfl | rfl | rfl | rfl <;> exact ⟨_, rfl, (h2 _).trans rfl⟩

theorem set_num {l : List Int} {f : Bool} {t b : List ByteArray} {bv : Value} {k o : Nat} (x : Int) (hl : l.length = k) (ho : nOffs[k]? = some o) :
    (cvR (mkC l f t b) bv).setIfInBounds o (.int .i64 x) = cvR (mkC (l ++ [x]) f t b) bv := by
  have hk : k < 10 := (List.getElem?_eq_some_iff.1 ho).1
  have : k = 0 ∨ k = 1 ∨ k = 2 ∨ k = 3 ∨ k = 4 ∨ k = 5 ∨ k = 6 ∨ k = 7 ∨ k = 8 ∨ k = 9 := by omega
  subst hl
  rcases this with h | h | h | h | h | h | h | h | h | h <;> rw [h] at ho <;> (injection ho with ho; subst ho)
  · match l, h with | [], _ => rfl
  · match l, h with | [_], _ => rfl
  · match l, h with | [_, _], _ => rfl
  · match l, h with | [_, _, _], _ => rfl
  · match l, h with | [_, _, _, _], _ => rfl
  · match l, h with | [_, _, _, _, _], _ => rfl
  · match l, h with | [_, _, _, _, _, _], _ => rfl
  · match l, h with | [_, _, _, _, _, _, _], _ => rfl
  · match l, h with | [_, _, _, _, _, _, _, _], _ => rfl
  · match l, h with | [_, _, _, _, _, _, _, _, _], _ => rfl
theorem set_txt {l : List Int} {f : Bool} {t b : List ByteArray} {bv : Value} {k o : Nat} (x : ByteArray) (hl : t.length = k) (ho : tOffs[k]? = some o) :
    (cvR (mkC l f t b) bv).setIfInBounds o (.string x) = cvR (mkC l f (t ++ [x]) b) bv := by
  have hk : k < 6 := (List.getElem?_eq_some_iff.1 ho).1
  have : k = 0 ∨ k = 1 ∨ k = 2 ∨ k = 3 ∨ k = 4 ∨ k = 5 := by omega
  subst hl
  rcases this with h | h | h | h | h | h <;> rw [h] at ho <;> (injection ho with ho; subst ho)
  · match t, h with | [], _ => rfl
  · match t, h with | [_], _ => rfl
  · match t, h with | [_, _], _ => rfl
  · match t, h with | [_, _, _], _ => rfl
  · match t, h with | [_, _, _, _], _ => rfl
  · match t, h with | [_, _, _, _, _], _ => rfl
theorem set_n {l : List Int} {f : Bool} {t b : List ByteArray} {bv : Value} (hl : l.length = 10) :
    (cvR (mkC l f t b) bv).setIfInBounds 16 (.int .i64 (l.getD 3 0 - 1)) = cvR (mkC (fixN l) f t b) bv := by
  match l, hl with | [_, _, _, _, _, _, _, _, _, _], _ => rfl
theorem set_f {l : List Int} {f q : Bool} {t b : List ByteArray} {bv : Value} : (cvR (mkC l f t b) bv).setIfInBounds 10 (.bool q) = cvR (mkC l q t b) bv := rfl
theorem set_b {l : List Int} {f : Bool} {t b b2 : List ByteArray} {bv bv2 : Value} : (cvR (mkC l f t b) bv).setIfInBounds 15 bv2 = cvR (mkC l f t b2) bv2 := rfl
theorem cvR_num {l : List Int} {f : Bool} {t b : List ByteArray} {bv : Value} {k o : Nat} (ho : nOffs[k]? = some o) : ∃ x, (cvR (mkC l f t b) bv)[o]? = some (.int .i64 x) := by
  have hk : k < 10 := (List.getElem?_eq_some_iff.1 ho).1
  have : k = 0 ∨ k = 1 ∨ k = 2 ∨ k = 3 ∨ k = 4 ∨ k = 5 ∨ k = 6 ∨ k = 7 ∨ k = 8 ∨ k = 9 := by omega
  rcases this with rfl | rfl | rfl | rfl | rfl | rfl | rfl | rfl | rfl | rfl <;> (injection ho with ho; subst ho; exact ⟨_, rfl⟩)
theorem cvR_txt {l : List Int} {f : Bool} {t b : List ByteArray} {bv : Value} {k o : Nat} (ho : tOffs[k]? = some o) : ∃ x, (cvR (mkC l f t b) bv)[o]? = some (.string x) := by
  have hk : k < 6 := (List.getElem?_eq_some_iff.1 ho).1
  have : k = 0 ∨ k = 1 ∨ k = 2 ∨ k = 3 ∨ k = 4 ∨ k = 5 := by omega
  rcases this with rfl | rfl | rfl | rfl | rfl | rfl <;> (injection ho with ho; subst ho; exact ⟨_, rfl⟩)
end Go.Proofs.YtlgippliihgcjaaDoor.C
