import Derived.Test.YtbfdebddoncfhaaPd2
/-! Pending: the table: what its memory holds. -/
namespace Go.Proofs.Ytbfdebddoncfhaa
open Go Go.RowKit Go.Proofs.Ytbfdebddoncfhaa.Sk
set_option linter.unusedVariables false
set_option linter.unusedSimpArgs false
set_option maxRecDepth 100000

structure PKey where
  link : Int
  cls : Int
  num : ByteArray
  stamp : ByteArray
  term : ByteArray
  deriving DecidableEq
def PKey.sc (k : PKey) : List Sc := [.num .i64 k.link, .num .i64 k.cls, .txt k.num, .txt k.stamp, .txt k.term]
def PKey.val (k : PKey) : Value := .agg (k.sc.map Sc.val).toArray
/-- A request, its messages as trees. -/
structure Pnd where
  key : PKey
  frm : Int
  to_ : Int
  number : Int
  m1 : ByteArray
  f1 : List Tr
  m2 : ByteArray
  f2 : List Tr
def Pnd.cells (p : Pnd) (h : Value × Value) : List Value := [.int .i64 p.key.link, .int .i64 p.key.cls, .string p.key.num, .string p.key.stamp, .string p.key.term, .int .i64 p.frm, .int .i64 p.to_, .int .i64 p.number, .string p.m1, h.1, .string p.m2, h.2]
def Pnd.value (p : Pnd) (h : Value × Value) : Value := .agg #[.int .i64 p.key.link, .int .i64 p.key.cls, .string p.key.num, .string p.key.stamp, .string p.key.term, .int .i64 p.frm, .int .i64 p.to_, .int .i64 p.number, .string p.m1, h.1, .string p.m2, h.2]
/-- A request in the table. -/
structure Ety where
  n : Int
  p : Pnd
  timer : Int
  late : Bool
structure Tab where
  most : Int
  timeout : Int
  remember : Int
  next : Int
  L : List Ety
  P : List Ent
  now : Int
  last : Int
def Ety.way (e : Ety) : Int × Int := (e.p.to_, e.p.number)
def waysL (L : List Ety) : List ((Int × Int) × Int) := L.map fun e => (e.way, e.n)
def keysL (L : List Ety) : List (PKey × Int) := (L.filter fun e => !e.late).map fun e => (e.p.key, e.n)
def waitsL (L : List Ety) : List Int := (L.filter fun e => !e.late).map Ety.n
def latesL (L : List Ety) : List Int := (L.filter fun e => e.late).map Ety.n
def allL (L : List Ety) (bs : List Nat) : List (Int × Nat) := List.zipWith (fun e b => (e.n, b)) L bs
def ptrV (b : Nat) : Value := .pointer (some ⟨b, 0, none⟩)
def wayV (q : Int × Int) : Value := .agg (([.num .i64 q.1, .num .i64 q.2] : List Sc).map Sc.val).toArray
def mesC (k : Nat) (h : Value × Value) (p : Pnd) : Chunk := star [nodesC 133 k 104 h.1 p.f1, nodesC 133 k 104 h.2 p.f2]
def Ety.obj (e : Ety) (h : Value × Value) : Obj := .cells #[.int .i64 e.p.key.link, .int .i64 e.p.key.cls, .string e.p.key.num, .string e.p.key.stamp, .string e.p.key.term, .int .i64 e.p.frm, .int .i64 e.p.to_, .int .i64 e.p.number, .string e.p.m1, h.1, .string e.p.m2, h.2, .int .i64 e.timer, .bool e.late] 100 (0, 0)
def etyC (k b : Nat) (e : Ety) : Chunk := exC fun h1 => exC fun h2 => star [.obj b (e.obj (h1, h2)), nodesC 133 k 104 h1 e.p.f1, nodesC 133 k 104 h2 e.p.f2]
def entsC (k : Nat) (bs : List Nat) (L : List Ety) : List Chunk := List.zipWith (etyC k) bs L
def tabO (g : Nat) (T : Tab) (bs : List Nat) (wg km kk kw : Nat) (hw hl : Value) : List Chunk :=
  [.obj g (.cells #[.pointer (some ⟨wg, 0, none⟩), .int .i64 T.most, .int .i64 T.timeout, .int .i64 T.remember, .int .i64 T.next, .map (some km), .map (some kk), .map (some kw), hw, hl] 91 (0, 0)),
   mapC (Value.int .i64) ptrV km (allL T.L bs), mapC PKey.val (Value.int .i64) kk (keysL T.L), mapC wayV (Value.int .i64) kw (waysL T.L),
   rowC 3 1 hw (waitsL T.L).length (ints (waitsL T.L)), rowC 3 1 hl (latesL T.L).length (ints (latesL T.L)), whC_i wg 256 T.P T.now T.last]
def tabB (k g : Nat) (T : Tab) (bs : List Nat) : Chunk := exC fun wg => exC fun km => exC fun kk => exC fun kw => exC fun hw => exC fun hl => pureC (bs.length = T.L.length)
  (star (tabO g T bs wg km kk kw hw hl ++ entsC k bs T.L))
def tabC (k g : Nat) (T : Tab) : Chunk := exC fun bs => tabB k g T bs
section
variable {w0 w : World} {F X : List Chunk} {k g : Nat} {T : Tab} {bs : List Nat}
theorem tab_shut {wg km kk kw : Nat} {hw hl : Value} (hb : bs.length = T.L.length) (hS : Sat w0 w (tabO g T bs wg km kk kw hw hl ++ (entsC k bs T.L ++ F))) : Sat w0 w (tabB k g T bs :: F) := by
  unfold tabB
  simp only [sat_ex, sat_pure, sat_star]
  exact ⟨wg, km, kk, kw, hw, hl, hb, by rw [List.append_assoc]; exact hS⟩
theorem tab_open (h : Sat w0 w (tabB k g T bs :: F)) : ∃ wg km kk kw o d o' d', bs.length = T.L.length ∧ Sat w0 w (tabO g T bs wg km kk kw (.slice o (waitsL T.L).length d) (.slice o' (latesL T.L).length d') ++ (entsC k bs T.L ++ F)) := by
  unfold tabB at h
  simp only [sat_ex, sat_pure, sat_star] at h
  obtain ⟨wg, km, kk, kw, hw, hl, hb, hS⟩ := h
  rw [List.append_assoc] at hS
  obtain ⟨o, d, rfl, _⟩ := row_val hS.tail.tail.tail.tail
  obtain ⟨o', d', rfl, _⟩ := row_val hS.tail.tail.tail.tail.tail
  exact ⟨wg, km, kk, kw, o, d, o', d', hb, hS⟩
theorem tab_bs : Sat w0 w (tabC k g T :: F) ↔ ∃ bs, Sat w0 w (tabB k g T bs :: F) := by
  unfold tabC
  rw [sat_ex]
/-- One entry out of the others, and back. -/
theorem ents_take {A B : List Ety} {bA bB : List Nat} {b : Nat} {e : Ety} (hl : bA.length = A.length) : Sat w0 w (X ++ (entsC k (bA ++ b :: bB) (A ++ e :: B) ++ F)) ↔ ∃ h1 h2, Sat w0 w (.obj b (e.obj (h1, h2)) :: nodesC 133 k 104 h1 e.p.f1 :: nodesC 133 k 104 h2 e.p.f2 :: (X ++ (entsC k (bA ++ bB) (A ++ B) ++ F))) := by
  have e1 : entsC k (bA ++ b :: bB) (A ++ e :: B) = entsC k bA A ++ etyC k b e :: entsC k bB B := by unfold entsC; rw [List.zipWith_append hl]; rfl
  have e2 : entsC k (bA ++ bB) (A ++ B) = entsC k bA A ++ entsC k bB B := by unfold entsC; rw [List.zipWith_append hl]
  rw [e1, e2]
  have hp : (X ++ ((entsC k bA A ++ etyC k b e :: entsC k bB B) ++ F)).Perm (etyC k b e :: (X ++ ((entsC k bA A ++ entsC k bB B) ++ F))) := by
    rw [List.append_assoc, List.append_assoc, List.cons_append]
    refine (List.perm_middle.append_left X).trans ?_
    exact List.perm_middle
  constructor
  · intro h
    have h2 := h.perm hp
    unfold etyC at h2
    simpa only [sat_ex, sat_star, List.cons_append, List.nil_append] using h2
  · intro h
    refine Sat.perm (C := etyC k b e :: (X ++ ((entsC k bA A ++ entsC k bB B) ++ F))) ?_ hp.symm
    unfold etyC
    simpa only [sat_ex, sat_star, List.cons_append, List.nil_append] using h
theorem all_split {A B : List Ety} {bA bB : List Nat} {b : Nat} {e : Ety} (hl : bA.length = A.length) : allL (A ++ e :: B) (bA ++ b :: bB) = allL A bA ++ (e.n, b) :: allL B bB ∧ allL (A ++ B) (bA ++ bB) = allL A bA ++ allL B bB := by
  unfold allL
  rw [List.zipWith_append hl.symm, List.zipWith_append hl.symm]
  exact ⟨rfl, rfl⟩
theorem all_keys : ∀ {L : List Ety} {bs : List Nat}, bs.length = L.length → (allL L bs).map (·.1) = L.map Ety.n
  | [], [], _ => rfl
  | e :: L, b :: bs, h => by
    have := all_keys (L := L) (bs := bs) (by simpa using h)
    unfold allL at this ⊢
    simp only [List.zipWith_cons_cons, List.map_cons, this]
  | [], _ :: _, h => by simp at h
  | _ :: _, [], h => by simp at h
theorem get_split {K V : Type} [DecidableEq K] {A B : List (K × V)} {x : K} {v : V} (h : ((A ++ (x, v) :: B).map (·.1)).Nodup) : mGet (A ++ (x, v) :: B) x = some v := by
  refine mGet_at (j := A.length) (by simp) (fun i hi p hp => ?_)
  rw [List.getElem?_append_left hi] at hp
  rw [List.map_append, List.nodup_append] at h
  exact h.2.2 p.1 (List.mem_map_of_mem (List.mem_of_getElem? hp)) x (by simp)
theorem del_split {K V : Type} [DecidableEq K] {A B : List (K × V)} {x : K} {v : V} (h : ((A ++ (x, v) :: B).map (·.1)).Nodup) : mDel (A ++ (x, v) :: B) x = A ++ B := by
  have e := del_erase (m := A ++ (x, v) :: B) (i := A.length) (x := x) (v' := v) h (by simp)
  rw [e, List.eraseIdx_append_of_length_le (Nat.le_refl _), Nat.sub_self]
  rfl
theorem bs_split {A B : List Ety} {e : Ety} (hb : bs.length = (A ++ e :: B).length) : ∃ bA b bB, bs = bA ++ b :: bB ∧ bA.length = A.length := by
  refine ⟨bs.take A.length, bs[A.length]'(by rw [hb]; simp), bs.drop (A.length + 1), ?_, ?_⟩
  · rw [← List.drop_eq_getElem_cons, List.take_append_drop]
  · rw [List.length_take, hb]; simp
end
end Go.Proofs.Ytbfdebddoncfhaa
