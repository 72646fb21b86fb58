import Derived.Test.YtbfdebddoncfhaaPd12
/-! Pending: Tick, the plain part. -/
namespace Go.Proofs.Ytbfdebddoncfhaa
open Go Go.RowKit Go.Proofs.Ytbfdebddoncfhaa.Sk
set_option linter.unusedVariables false
set_option linter.unusedSimpArgs false
set_option maxRecDepth 100000

section heap
variable {w0 w : World} {R X : List Chunk} {k g : Nat} {T : Tab} {A B : List Ety} {bA bB : List Nat} {b : Nat} {e : Ety}
theorem tab_entryX (hL : T.L = A ++ e :: B) (hl : bA.length = A.length) (hS : Sat w0 w (X ++ tabB k g T (bA ++ b :: bB) :: R)) :
    ∃ wg km kk kw o d o' d' B1 n1 d1 B2 n2 d2, bB.length = B.length ∧ ((allL T.L (bA ++ b :: bB)).map (·.1)).Nodup ∧ ((keysL T.L).map (·.1)).Nodup ∧ ((waysL T.L).map (·.1)).Nodup ∧
      Sat w0 w (mesC k (.slice B1 n1 d1, .slice B2 n2 d2) e.p :: .obj b (e.obj (.slice B1 n1 d1, .slice B2 n2 d2)) :: (X ++ (tabO g T (bA ++ b :: bB) wg km kk kw (.slice o (waitsL T.L).length d) (.slice o' (latesL T.L).length d') ++ (entsC k (bA ++ bB) (A ++ B) ++ R)))) := by
  obtain ⟨wg, km, kk, kw, o, d, o', d', B1, n1, d1, B2, n2, d2, h1, h2, h3, h4, h⟩ := tab_entry (F := X ++ R) hL hl (hS.perm List.perm_middle)
  refine ⟨wg, km, kk, kw, o, d, o', d', B1, n1, d1, B2, n2, d2, h1, h2, h3, h4, ?_⟩
  have h5 := mes_in (p := e.p) (h.sel [1, 1])
  have h6 : Sat w0 w (mesC k (.slice B1 n1 d1, .slice B2 n2 d2) e.p :: .obj b (e.obj (.slice B1 n1 d1, .slice B2 n2 d2)) :: (tabO g T (bA ++ b :: bB) wg km kk kw (.slice o (waitsL T.L).length d) (.slice o' (latesL T.L).length d') ++ (entsC k (bA ++ bB) (A ++ B) ++ (X ++ R)))) := h5
  exact h6.perm ((((List.perm_append_comm_assoc _ _ _).append_left _).trans (List.perm_append_comm_assoc _ _ _)).cons _ |>.cons _)
theorem tab_backX2 {wg km kk kw : Nat} {hw hl' : Value} {h : Value × Value} (hL : T.L = A ++ e :: B) (hl : bA.length = A.length) (hb : bB.length = B.length)
    (hS : Sat w0 w (mesC k h e.p :: .obj b (e.obj h) :: (X ++ (tabO g T (bA ++ b :: bB) wg km kk kw hw hl' ++ (entsC k (bA ++ bB) (A ++ B) ++ R))))) : Sat w0 w (X ++ tabB k g T (bA ++ b :: bB) :: R) := by
  obtain ⟨h1, h2⟩ := h
  refine Sat.perm (C := tabB k g T (bA ++ b :: bB) :: (X ++ R)) ?_ List.perm_middle.symm
  refine tab_entry_back (F := X ++ R) (wg := wg) (km := km) (kk := kk) (kw := kw) (hw := hw) (hl' := hl') (h1 := h1) (h2 := h2) hL hl hb ?_
  have h6 : Sat w0 w (mesC k (h1, h2) e.p :: .obj b (e.obj (h1, h2)) :: (tabO g T (bA ++ b :: bB) wg km kk kw hw hl' ++ (entsC k (bA ++ bB) (A ++ B) ++ (X ++ R)))) :=
    hS.perm ((((List.perm_append_comm_assoc _ _ _).append_left _).trans (List.perm_append_comm_assoc _ _ _)).symm.cons _ |>.cons _)
  exact (mes_out h6).sel [2]
end heap

def rem (n : Int) (L : List Ety) : List Ety := L.filter fun x => !decide (x.n = n)
def mark (n t : Int) (L : List Ety) : List Ety := L.map fun x => if x.n = n then ⟨x.n, x.p, t, true⟩ else x
section pure
variable {A B : List Ety} {e : Ety} {t : Int}
theorem rem_none {n : Int} {L : List Ety} (h : ∀ x ∈ L, x.n ≠ n) : rem n L = L := List.filter_eq_self.2 fun x hx => by simpa using h x hx
theorem mark_none {n : Int} {L : List Ety} (h : ∀ x ∈ L, x.n ≠ n) : mark n t L = L := by
  unfold mark
  rw [List.map_congr_left (g := id) (fun x hx => by rw [if_neg (h x hx)]; rfl), List.map_id]
theorem rem_split (hn : ((A ++ e :: B).map Ety.n).Nodup) : rem e.n (A ++ e :: B) = A ++ B := by
  obtain ⟨h1, h2⟩ := n_out hn
  have e1 : rem e.n (A ++ e :: B) = rem e.n A ++ rem e.n (e :: B) := by unfold rem; rw [List.filter_append]
  have e2 : rem e.n (e :: B) = rem e.n B := by unfold rem; rw [List.filter_cons]; simp
  rw [e1, e2, rem_none h1, rem_none h2]
theorem mark_split (hn : ((A ++ e :: B).map Ety.n).Nodup) : mark e.n t (A ++ e :: B) = A ++ ⟨e.n, e.p, t, true⟩ :: B := by
  obtain ⟨h1, h2⟩ := n_out hn
  have e1 : mark e.n t (A ++ e :: B) = mark e.n t A ++ mark e.n t (e :: B) := by unfold mark; rw [List.map_append]
  have e2 : mark e.n t (e :: B) = ⟨e.n, e.p, t, true⟩ :: mark e.n t B := by unfold mark; rw [List.map_cons, if_pos rfl]
  rw [e1, e2, mark_none h1, mark_none h2]
end pure
def findN (L : List Ety) (n : Int) : Option Ety := L.find? fun x => decide (x.n = n)
theorem findN_some {L : List Ety} {n : Int} {e : Ety} (h : findN L n = some e) : e.n = n ∧ ∃ A B, L = A ++ e :: B := by
  have h1 := List.find?_some h
  exact ⟨by simpa using h1, List.append_of_mem (List.mem_of_find?_eq_some h)⟩
theorem findN_none {L : List Ety} {n : Int} (h : findN L n = none) : ∀ x ∈ L, x.n ≠ n := by
  intro x hx
  have := List.find?_eq_none.1 h x hx
  simpa using this
def pass1 (s : Tab × List Pnd) (n : Int) : Tab × List Pnd := match findN s.1.L n with
  | none => s
  | some e => if e.late = true then ({ s.1 with L := rem n s.1.L }, s.2 ++ [e.p]) else s
def Run1 : Tab × List Pnd → List Int → Prop
  | _, [] => True
  | s, n :: r => (findN s.1.L n).isSome = true ∧ Run1 (pass1 s n) r
def marked (T : Tab) (n : Int) : Tab := { T with L := mark n (T.last + 1) T.L, P := T.P ++ [⟨T.last + 1, T.now + T.remember, .int .i64 n, rfl⟩], last := T.last + 1 }
def evict (T : Tab) (o : Ety) : Tab := { T with L := rem o.n T.L, P := T.P.filter fun x => !decide (x.timer = o.timer) }
def firstLate (L : List Ety) : Option Ety := L.find? fun x => x.late
def pass2 (s : Tab × List Pnd × List Pnd) (n : Int) : Tab × List Pnd × List Pnd := match findN s.1.L n with
  | none => s
  | some e => if (marked s.1 n).most < (latesL (marked s.1 n).L).length then match firstLate (marked s.1 n).L with
    | none => (marked s.1 n, s.2.1 ++ [e.p], s.2.2)
    | some o => (evict (marked s.1 n) o, s.2.1 ++ [e.p], s.2.2 ++ [o.p]) else (marked s.1 n, s.2.1 ++ [e.p], s.2.2)
/-- All goes well where n becomes late. -/
structure P2Ok (T : Tab) (n : Int) (e : Ety) : Prop where
  late : e.late = false
  behind : ∀ A B, T.L = A ++ e :: B → ∀ x ∈ B, x.late = false
  rising : Rising T.P T.last
  old : ∀ x ∈ T.L, x.late = true → ∃ en ∈ T.P, en.timer = x.timer ∧ 0 ≤ en.at_
  r0 : 1 ≤ T.remember
  r1 : T.remember ≤ 100000
  n0 : 0 ≤ T.now
  n1 : T.now ≤ 4611686018427387904
  l0 : 0 ≤ T.last
  l1 : T.last ≤ 4611686018427387904
  room : (T.L.length + 2) * 168 ≤ 140737488355328
  roomP : (T.P.length + 2) * 24 ≤ 140737488355328
def Run2 : Tab × List Pnd × List Pnd → List Int → Prop
  | _, [] => True
  | s, n :: r => (∀ e, findN s.1.L n = some e → P2Ok s.1 n e) ∧ Run2 (pass2 s n) r
theorem firstLate_head {L : List Ety} {x : Int} {r : List Int} (h : latesL L = x :: r) : ∃ o, firstLate L = some o ∧ o.n = x ∧ o.late = true := by
  unfold latesL at h
  cases hf : L.filter (fun e => e.late) with
  | nil => rw [hf] at h; cases h
  | cons o q =>
    rw [hf] at h
    injection h with h _
    refine ⟨o, ?_, h, ?_⟩
    · unfold firstLate
      rw [← List.head?_filter, hf]
      rfl
    · have : o ∈ L.filter (fun e => e.late) := by rw [hf]; simp
      exact (List.mem_filter.1 this).2
theorem all_get {A B : List Ety} {bA bB : List Nat} {b : Nat} {e : Ety} (hl : bA.length = A.length) (hn : ((allL (A ++ e :: B) (bA ++ b :: bB)).map (·.1)).Nodup) : mGet (allL (A ++ e :: B) (bA ++ b :: bB)) e.n = some b := (all_drop hl hn).2
theorem all_none {L : List Ety} {bs : List Nat} {n : Int} (hb : bs.length = L.length) (h : ∀ x ∈ L, x.n ≠ n) : mGet (allL L bs) n = none := by
  refine mGet_none fun q hq => ?_
  have : q.1 ∈ (allL L bs).map (·.1) := List.mem_map_of_mem hq
  rw [all_keys hb] at this
  obtain ⟨e, he, h2⟩ := List.mem_map.1 this
  rw [← h2]
  exact h e he
theorem all_mark {A B : List Ety} {bA bB : List Nat} {b : Nat} {e : Ety} {t : Int} (hl : bA.length = A.length) : allL (A ++ ⟨e.n, e.p, t, true⟩ :: B) (bA ++ b :: bB) = allL (A ++ e :: B) (bA ++ b :: bB) := by
  rw [(all_split hl).1, (all_split hl).1]
theorem ways_mark {A B : List Ety} {e : Ety} {t : Int} : waysL (A ++ ⟨e.n, e.p, t, true⟩ :: B) = waysL (A ++ e :: B) := by
  rw [ways_split, ways_split]
  rfl
theorem lates_mark {A B : List Ety} {e : Ety} {t : Int} (h : e.late = false) (hB : ∀ x ∈ B, x.late = false) : latesL (A ++ ⟨e.n, e.p, t, true⟩ :: B) = latesL (A ++ e :: B) ++ [e.n] := by
  have hb : latesL B = [] := by
    unfold latesL
    rw [List.filter_eq_nil_iff.2 (fun x hx => by simp [hB x hx])]
    rfl
  rw [lates_split, lates_split, h, hb, if_pos rfl, if_neg (by decide)]
  simp
theorem keys_mark {A B : List Ety} {e : Ety} {t : Int} : keysL (A ++ ⟨e.n, e.p, t, true⟩ :: B) = keysL (A ++ B) := keys_keep rfl
theorem waits_mark {A B : List Ety} {e : Ety} {t : Int} : waitsL (A ++ ⟨e.n, e.p, t, true⟩ :: B) = waitsL (A ++ B) := waits_keep rfl
end Go.Proofs.Ytbfdebddoncfhaa
