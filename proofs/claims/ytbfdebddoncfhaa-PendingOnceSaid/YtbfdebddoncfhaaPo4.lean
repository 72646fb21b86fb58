import Derived.Test.YtbfdebddoncfhaaPo3
import Derived.Test.YtbfdebddoncfhaaMD
/-! PendingOnce: what became of each request. -/
namespace Go.Proofs.Ytbfdebddoncfhaa
open Go Go.RowKit Go.Proofs.Ytbfdebddoncfhaa.Sk
set_option linter.unusedVariables false
set_option linter.unusedSimpArgs false
set_option maxRecDepth 100000

structure Fate where
  added : Int
  late : Int
  out : Bool
def Fate.cells (f : Fate) : List Value := [.int .i64 f.added, .int .i64 f.late, .bool f.out]
def fateCells (R : List Fate) : List Value := R.flatMap Fate.cells
theorem fate_len (R : List Fate) : (fateCells R).length = R.length * 3 := by
  induction R with
  | nil => rfl
  | cons f R ih =>
    have e : fateCells (f :: R) = f.cells ++ fateCells R := rfl
    rw [e, List.length_append, ih]
    simp [Fate.cells]
    omega
theorem fate_snoc (R : List Fate) (f : Fate) : fateCells (R ++ [f]) = fateCells R ++ f.cells := by simp [fateCells]
theorem fate_at {R : List Fate} {i : Nat} {f : Fate} (h : R[i]? = some f) : ∀ j v, f.cells[j]? = some v → (fateCells R)[i * 3 + j]? = some v := by
  induction R generalizing i with
  | nil => simp at h
  | cons g R ih =>
    intro j v hj
    have e : fateCells (g :: R) = g.cells ++ fateCells R := rfl
    have hl : g.cells.length = 3 := rfl
    cases i with
    | zero =>
      simp at h
      subst h
      have : j < g.cells.length := (List.getElem?_eq_some_iff.1 hj).1
      rw [e, List.getElem?_append_left (by omega)]
      simpa using hj
    | succ i =>
      have := ih (i := i) (by simpa using h) j v hj
      rw [e, List.getElem?_append_right (by omega), hl]
      rw [show (i + 1) * 3 + j - 3 = i * 3 + j by omega]
      exact this
theorem fate_set {R : List Fate} {i j : Nat} {f f' : Fate} {v : Value} (h : R[i]? = some f) (hj : j < 3) (hv : f.cells.set j v = f'.cells) : (fateCells R).set (i * 3 + j) v = fateCells (R.set i f') := by
  induction R generalizing i with
  | nil => simp at h
  | cons g R ih =>
    have e : ∀ g, fateCells (g :: R) = g.cells ++ fateCells R := fun _ => rfl
    have hl : g.cells.length = 3 := rfl
    cases i with
    | zero =>
      simp at h
      subst h
      rw [e, List.set_append_left _ _ (by omega), List.set_cons_zero, e, Nat.zero_mul, Nat.zero_add, hv]
    | succ i =>
      have := ih (i := i) (by simpa using h)
      rw [e, List.set_append_right _ _ (by omega), hl, show (i + 1) * 3 + j - 3 = i * 3 + j by omega, this]
      rfl
theorem fate_one (f : Fate) : ∀ u ∈ f.cells, u.oneCell' = true := by
  intro u hu
  simp [Fate.cells] at hu
  rcases hu with rfl | rfl | rfl <;> rfl
structure Rel (to : Int) (R : List Fate) (LA WA : List Lv) : Prop where
  rl : ∀ x ∈ LA, R[x.i]? = some ⟨x.a, x.a + to, false⟩
  rw : ∀ x ∈ WA, R[x.i]? = some ⟨x.a, 0, false⟩
  all : ∀ i f, R[i]? = some f → f.out = false → ∃ x ∈ LA ++ WA, x.i = i
section
variable {to : Int} {R : List Fate} {LA WA A B : List Lv} {x c : Lv}
theorem Rel.late {nw : Int} (h : Rel to R LA (c :: WA)) (hids : ((LA ++ (c :: WA)).map Lv.i).Pairwise (· < ·)) (hc : c.a + to = nw) : Rel to (R.set c.i ⟨c.a, nw, false⟩) (LA ++ [c]) WA := by
  rw [List.map_append, List.map_cons, List.pairwise_append, List.pairwise_cons] at hids
  have hcl := (List.getElem?_eq_some_iff.1 (h.rw c (by simp))).1
  refine ⟨?_, ?_, ?_⟩
  · intro x hx
    rcases List.mem_append.1 hx with hx | hx
    · have := hids.2.2 x.i (List.mem_map_of_mem hx) c.i (by simp)
      rw [List.getElem?_set_ne (by omega)]
      exact h.rl x hx
    · simp at hx
      subst hx
      rw [List.getElem?_set_self hcl, hc]
  · intro x hx
    have := hids.2.1.1 x.i (List.mem_map_of_mem hx)
    rw [List.getElem?_set_ne (by omega)]
    exact h.rw x (by simp [hx])
  · intro i f hi hf
    by_cases e : c.i = i
    · exact ⟨c, by simp, e⟩
    · rw [List.getElem?_set_ne e] at hi
      obtain ⟨y, hy, hyi⟩ := h.all i f hi hf
      exact ⟨y, by simp at hy ⊢; first | exact hy | (rcases hy with h | h <;> simp [h]; done) | (rcases hy with h | h | h <;> simp [h]; done), hyi⟩
theorem Rel.goneL {f' : Fate} (h : Rel to R (A ++ x :: B) WA) (hids : (((A ++ x :: B) ++ WA).map Lv.i).Pairwise (· < ·)) (hf : f'.out = true) : Rel to (R.set x.i f') (A ++ B) WA := by
  have hne : ∀ y ∈ A ++ B ++ WA, x.i ≠ y.i := by
    rw [List.map_append, List.map_append, List.map_cons, List.append_assoc, List.cons_append, List.pairwise_append, List.pairwise_cons] at hids
    intro y hy
    rw [List.append_assoc] at hy
    rcases List.mem_append.1 hy with hy | hy
    · have := hids.2.2 y.i (List.mem_map_of_mem hy) x.i (by simp); omega
    · have := hids.2.1.1 y.i (by rw [← List.map_append]; exact List.mem_map_of_mem hy); omega
  have hxl := (List.getElem?_eq_some_iff.1 (h.rl x (by simp))).1
  refine ⟨fun y hy => ?_, fun y hy => ?_, fun i f hi hfo => ?_⟩
  · rw [List.getElem?_set_ne (hne y (by simp at hy ⊢; first | exact hy | (rcases hy with h | h <;> simp [h]; done) | (rcases hy with h | h | h <;> simp [h]; done)))]
    exact h.rl y (by simp at hy ⊢; first | exact hy | (rcases hy with h | h <;> simp [h]; done) | (rcases hy with h | h | h <;> simp [h]; done))
  · rw [List.getElem?_set_ne (hne y (by simp [hy]))]
    exact h.rw y hy
  · by_cases e : x.i = i
    · subst e
      rw [List.getElem?_set_self hxl] at hi
      injection hi with hi
      subst hi
      rw [hf] at hfo
      cases hfo
    · rw [List.getElem?_set_ne e] at hi
      obtain ⟨y, hy, hyi⟩ := h.all i f hi hfo
      refine ⟨y, ?_, hyi⟩
      simp at hy ⊢
      rcases hy with hy | rfl | hy | hy
      · exact .inl hy
      · exact absurd hyi e
      · exact .inr (.inl hy)
      · exact .inr (.inr hy)
theorem Rel.goneW {f' : Fate} (h : Rel to R LA (A ++ x :: B)) (hids : ((LA ++ (A ++ x :: B)).map Lv.i).Pairwise (· < ·)) (hf : f'.out = true) : Rel to (R.set x.i f') LA (A ++ B) := by
  have hne : ∀ y ∈ LA ++ (A ++ B), x.i ≠ y.i := by
    rw [← List.append_assoc, List.map_append, List.map_cons, List.pairwise_append, List.pairwise_cons] at hids
    intro y hy
    rw [← List.append_assoc] at hy
    rcases List.mem_append.1 hy with hy | hy
    · have := hids.2.2 y.i (List.mem_map_of_mem hy) x.i (by simp); omega
    · have := hids.2.1.1 y.i (List.mem_map_of_mem hy); omega
  have hxl := (List.getElem?_eq_some_iff.1 (h.rw x (by simp))).1
  refine ⟨fun y hy => ?_, fun y hy => ?_, fun i f hi hfo => ?_⟩
  · rw [List.getElem?_set_ne (hne y (by simp [hy]))]
    exact h.rl y hy
  · rw [List.getElem?_set_ne (hne y (by simp at hy ⊢; first | exact hy | (rcases hy with h | h <;> simp [h]; done) | (rcases hy with h | h | h <;> simp [h]; done)))]
    exact h.rw y (by simp at hy ⊢; first | exact hy | (rcases hy with h | h <;> simp [h]; done) | (rcases hy with h | h | h <;> simp [h]; done))
  · by_cases e : x.i = i
    · subst e
      rw [List.getElem?_set_self hxl] at hi
      injection hi with hi
      subst hi
      rw [hf] at hfo
      cases hfo
    · rw [List.getElem?_set_ne e] at hi
      obtain ⟨y, hy, hyi⟩ := h.all i f hi hfo
      refine ⟨y, ?_, hyi⟩
      simp at hy ⊢
      rcases hy with hy | hy | rfl | hy
      · exact .inl hy
      · exact .inr (.inl hy)
      · exact absurd hyi e
      · exact .inr (.inr hy)
theorem Rel.add {now t : Int} (h : Rel to R LA WA) : Rel to (R ++ [⟨now, 0, false⟩]) LA (WA ++ [⟨R.length, now, t⟩]) := by
  have hup : ∀ {i f}, R[i]? = some f → (R ++ [(⟨now, 0, false⟩ : Fate)])[i]? = some f := fun {i f} hi => by
    rw [List.getElem?_append_left (List.getElem?_eq_some_iff.1 hi).1]
    exact hi
  refine ⟨fun y hy => hup (h.rl y hy), fun y hy => ?_, fun i f hi hf => ?_⟩
  · rcases List.mem_append.1 hy with hy | hy
    · exact hup (h.rw y hy)
    · simp at hy
      subst hy
      simp
  · by_cases e : i < R.length
    · rw [List.getElem?_append_left e] at hi
      obtain ⟨y, hy, hyi⟩ := h.all i f hi hf
      exact ⟨y, by simp at hy ⊢; first | exact hy | (rcases hy with h | h <;> simp [h]; done) | (rcases hy with h | h | h <;> simp [h]; done), hyi⟩
    · have hl := (List.getElem?_eq_some_iff.1 hi).1
      simp at hl
      exact ⟨⟨R.length, now, t⟩, by simp, by show R.length = i; omega⟩
theorem Rel.keys {LB : List Lv} (h : Rel to R LA WA) (hk : LB.map Lv.key = LA.map Lv.key) : Rel to R LB WA := by
  refine ⟨fun x hx => ?_, h.rw, fun i f hi hf => ?_⟩
  · obtain ⟨y, hy, h1, h2⟩ := key_mem hk hx
    rw [← h1, ← h2]
    exact h.rl y hy
  · obtain ⟨y, hy, hyi⟩ := h.all i f hi hf
    rcases List.mem_append.1 hy with hy | hy
    · obtain ⟨z, hz, h1, h2⟩ := key_mem hk.symm hy
      exact ⟨z, by simp [hz], by omega⟩
    · exact ⟨y, by simp [hy], hyi⟩
end
/-- The world: what it tells of the table, and of each request. -/
def wC (b g : Nat) (R : List Fate) (now wait past : Int) (m : Nat) (to fo : Int) : Chunk := exC fun v => star [.obj b (.cells #[.pointer (some ⟨g, 0, none⟩), v, .int .i64 now, .int .i64 wait, .int .i64 past, .int .i64 m, .int .i64 to, .int .i64 fo] 52 (0, 0)), rowC 58 3 v R.length (fateCells R)]
section
variable {w0 w : World} {F : List Chunk} {b g : Nat} {R : List Fate} {now wait past : Int} {m : Nat} {to fo : Int}
theorem w_open (h : Sat w0 w (wC b g R now wait past m to fo :: F)) : ∃ A c, R.length ≤ c ∧ Sat w0 w (.obj b (.cells #[.pointer (some ⟨g, 0, none⟩), .slice A R.length c, .int .i64 now, .int .i64 wait, .int .i64 past, .int .i64 m, .int .i64 to, .int .i64 fo] 52 (0, 0)) :: rowC 58 3 (.slice A R.length c) R.length (fateCells R) :: F) := by
  obtain ⟨v, h⟩ := sat_ex.1 h
  replace h := sat_star.1 h
  obtain ⟨A, c, rfl, hc, _⟩ := row_val (h.front 1 rfl)
  exact ⟨A, c, hc, h⟩
theorem w_shut {v : Value} (h : Sat w0 w (.obj b (.cells #[.pointer (some ⟨g, 0, none⟩), v, .int .i64 now, .int .i64 wait, .int .i64 past, .int .i64 m, .int .i64 to, .int .i64 fo] 52 (0, 0)) :: rowC 58 3 v R.length (fateCells R) :: F)) : Sat w0 w (wC b g R now wait past m to fo :: F) :=
  sat_ex.2 ⟨v, sat_star.2 h⟩
end
/-- Table and fates are as they should be. -/
structure WldOk (m : Nat) (to fo : Int) (R : List Fate) (LA WA : List Lv) (P : List Ent) (now last : Int) : Prop where
  c : Cst m to fo
  ok : Ok m to fo R.length LA WA P now last
  rel : Rel to R LA WA
section
variable {m : Nat} {to fo now last : Int} {R : List Fate} {LA WA : List Lv} {P : List Ent} {next : Nat}
theorem tab_ways (h : (LA ++ WA).map Lv.i = (LA ++ WA).map Lv.i) {n : Nat} (hn : ∀ x ∈ LA ++ WA, x.i ≠ n) : mGet (waysL (tabS m to fo next LA WA P now last).L) (req n).way = none := by
  refine mGet_none fun p hp => ?_
  unfold waysL tabS at hp
  obtain ⟨e, he, rfl⟩ := List.mem_map.1 hp
  have : ∃ x ∈ LA ++ WA, e.p = req x.i := by
    rcases List.mem_append.1 he with he | he
    · obtain ⟨x, hx, rfl⟩ := List.mem_map.1 he
      exact ⟨x, by simp [hx], rfl⟩
    · obtain ⟨x, hx, rfl⟩ := List.mem_map.1 he
      exact ⟨x, by simp [hx], rfl⟩
  obtain ⟨x, hx, hex⟩ := this
  intro heq
  have h1 : e.p.number = (req n).number := congrArg Prod.snd heq
  rw [hex] at h1
  have h2 : ((x.i : Nat) : Int) = (n : Int) := h1
  exact hn x hx (by omega)
theorem tab_keys {n : Nat} (hn : ∀ x ∈ WA, x.i ≠ n) : mGet (keysL (tabS m to fo next LA WA P now last).L) (req n).key = none := by
  refine mGet_none fun p hp => ?_
  unfold keysL tabS at hp
  obtain ⟨e, he, rfl⟩ := List.mem_map.1 hp
  obtain ⟨he, hl⟩ := List.mem_filter.1 he
  rcases List.mem_append.1 he with he | he
  · obtain ⟨x, hx, rfl⟩ := List.mem_map.1 he
    cases hl
  · obtain ⟨x, hx, rfl⟩ := List.mem_map.1 he
    intro heq
    exact hn x hx (reqK_inj heq)
theorem tab_key {x : Lv} (hx : x ∈ WA) : (mGet (keysL (tabS m to fo next LA WA P now last).L) (req x.i).key).isSome = true := by
  cases h : mGet (keysL (tabS m to fo next LA WA P now last).L) (req x.i).key with
  | some v => rfl
  | none =>
    exfalso
    have hm : (reqK x.i, (x.i : Int)) ∈ keysL (tabS m to fo next LA WA P now last).L := by
      unfold keysL tabS
      exact List.mem_map.2 ⟨x.wt, List.mem_filter.2 ⟨List.mem_append_right _ (List.mem_map_of_mem hx), rfl⟩, rfl⟩
    have h2 := h
    unfold mGet at h2
    rw [Option.map_eq_none_iff, List.find?_eq_none] at h2
    have := h2 _ hm
    simp [req] at this
theorem tab_waits : waitsL (tabS m to fo next LA WA P now last).L = WA.map fun x => (x.i : Int) := by
  unfold tabS
  simp only
  rw [waits_app, waits_lt, waits_wt, List.nil_append]
theorem tab_lates : latesL (tabS m to fo next LA WA P now last).L = LA.map fun x => (x.i : Int) := by
  unfold tabS
  simp only
  rw [lates_app, lates_lt, lates_wt, List.append_nil]
end
end Go.Proofs.Ytbfdebddoncfhaa
