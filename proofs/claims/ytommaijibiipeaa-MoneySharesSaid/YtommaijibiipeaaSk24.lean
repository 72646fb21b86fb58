import Derived.Test.YtommaijibiipeaaSk3
/-! A quick check of a drawn region's order (no operation kept last): what an operation waits for, looks at and fills as masks of bits. -/
namespace Go.Proofs.Ytommaijibiipeaa.Sk
open Go Go.RowKit Go.Proofs.YtommaijibiipeaaW.PrintLast
set_option linter.unusedVariables false
set_option linter.unusedSimpArgs false

/-- The numbers of a list as bits. -/
def bits (l : List Nat) : Nat := l.foldr (fun t m => (1 <<< t) ||| m) 0
theorem bits_test {l : List Nat} {k : Nat} : (bits l).testBit k = l.contains k := by
  induction l with
  | nil => simp [bits]
  | cons x r ih =>
    show ((1 <<< x) ||| bits r).testBit k = _
    rw [Nat.testBit_or, ih, Nat.one_shiftLeft, Nat.testBit_two_pow, List.contains_cons]
    congr 1
    by_cases h : x = k
    · subst h; simp
    · have h2 : ¬ k = x := fun e => h e.symm
      simp [h, h2]
def opA (o : Oper) : Nat := bits (o.after.toList.filterMap fun e => if Region.binds .any e then some e.on else none)
def opL (ops : Array Oper) (o : Oper) : Nat := bits (o.looksAt ops)
def opD (o : Oper) : Nat := match o.dst with | some d => 1 <<< d | none => 0
theorem opA_test {o : Oper} {k : Nat} : (opA o).testBit k = o.after.any (fun e => Region.binds .any e && e.on == k) := by
  rw [opA, bits_test]
  apply Bool.eq_iff_iff.2
  simp only [List.contains_iff_mem, List.mem_filterMap, Array.any_eq_true', Bool.and_eq_true, beq_iff_eq, Array.mem_toList_iff]
  constructor
  · rintro ⟨e, he, h⟩
    by_cases hb : Region.binds .any e = true
    · rw [if_pos hb] at h
      exact ⟨e, he, hb, by simpa using h⟩
    · rw [if_neg hb] at h; cases h
  · rintro ⟨e, he, hb, hk⟩
    exact ⟨e, he, by rw [if_pos hb, hk]⟩
theorem and_test {a b : Nat} (h : (a &&& b == a) = true) {k : Nat} (hk : a.testBit k = true) : b.testBit k = true := by
  have h1 : a &&& b = a := by simpa using h
  have h2 : (a &&& b).testBit k = true := by rw [h1]; exact hk
  rw [Nat.testBit_and, Bool.and_eq_true] at h2
  exact h2.2
theorem and_zero {a b : Nat} (h : (a &&& b == 0) = true) {k : Nat} (hk : a.testBit k = true) : b.testBit k = false := by
  have h1 : a &&& b = 0 := by simpa using h
  have h2 : (a &&& b).testBit k = false := by rw [h1]; exact Nat.zero_testBit k
  rw [Nat.testBit_and, hk, Bool.true_and] at h2
  exact h2
theorem and_all {a b : Nat} (h : ∀ k, a.testBit k = true → b.testBit k = true) : (a &&& b == a) = true := by
  rw [beq_iff_eq]
  apply Nat.eq_of_testBit_eq
  intro k
  rw [Nat.testBit_and]
  cases hk : a.testBit k with
  | false => rfl
  | true => rw [h k hk]; rfl
theorem opD_test {o : Oper} {d : Nat} (h : o.dst = some d) : (opD o).testBit d = true := by
  simp [opD, h, Nat.one_shiftLeft]

structure Bt where
  a : Nat
  l : Nat
  d : Nat
def btOf (ops : Array Oper) (o : Oper) : Bt := ⟨opA o, opL ops o, opD o⟩
def IsBt (l : Array Bool) (L : Nat) (n : Nat) : Prop := l.size = n ∧ ∀ k, l.getD k false = L.testBit k
def rdyN (b : Bt) (L : Nat) : Bool := b.a &&& L == b.a
def freeN (L : Nat) (j : Nat) (b : Bt) : Nat → List Bt → Bool
  | _, [] => true
  | k, c :: r => (k == j || L.testBit k || c.a.testBit j || (b.d &&& c.l == 0 && (b.d &&& c.d == 0) && (c.d &&& b.l == 0))) && freeN L j b (k + 1) r
def closedN (L : Nat) : Nat → List Bt → Bool
  | _, [] => true
  | k, c :: r => (!L.testBit k || rdyN c L) && closedN L (k + 1) r
def onlyN (L : Nat) (j : Nat) : Nat → List Bt → Bool
  | _, [] => true
  | k, c :: r => (k == j || L.testBit k || !rdyN c L) && onlyN L j (k + 1) r
def stepN (T : List Bt) (L : Nat) : Nat × How → Bool
  | (j, .pu) => match T[j]? with | some b => !L.testBit j && rdyN b L && freeN L j b 0 T | none => false
  | (j, .tk) => match T[j]? with | some b => !L.testBit j && rdyN b L && freeN L j b 0 T && closedN L 0 T | none => false
  | (j, .on) => match T[j]? with | some b => !L.testBit j && rdyN b L && onlyN L j 0 T | none => false
  | (_, .ls) => false
  | (j, .fk) => match T[j]? with | some _ => true | none => false
/-- A number made out before it is used. -/
def frc (e : Nat) (g : Nat → Bool) : Bool := match e + 1 with | 0 => false | n + 1 => g n
theorem frc_eq {e : Nat} {g : Nat → Bool} : frc e g = g e := rfl
def runN (T : List Bt) : Nat → List (Nat × How) → Bool
  | L, [] => onlyN L T.length 0 T
  | L, p :: r => stepN T L p && frc (L ||| (1 <<< p.1)) fun L' => runN T L' r
def mkN (ops : Array Oper) : List Oper → (List Bt → Bool) → Bool
  | [], k => k []
  | o :: r, k => frc (opA o) fun a => frc (opL ops o) fun l => frc (opD o) fun d => mkN ops r fun T => k (⟨a, l, d⟩ :: T)
theorem mkN_eq {ops : Array Oper} {l : List Oper} {k : List Bt → Bool} : mkN ops l k = k (l.map (btOf ops)) := by
  induction l generalizing k with
  | nil => rfl
  | cons o r ih =>
    show frc _ _ = _
    rw [frc_eq, frc_eq, frc_eq, ih]
    rfl
def chkN (ops : Array Oper) (ord : List (Nat × How)) : Bool :=
  (ord.length == ops.size) && Region.noSelect ops && mkN ops ops.toList fun T => runN T 0 ord

section
variable {ops : Array Oper} {l : Array Bool} {L : Nat}
def tabN (ops : Array Oper) : List Bt := ops.toList.map (btOf ops)
theorem tabN_len : (tabN ops).length = ops.size := by simp [tabN]
theorem tabN_at {j : Nat} {b : Bt} (h : (tabN ops)[j]? = some b) : ∃ o, ops[j]? = some o ∧ b = btOf ops o := by
  rw [tabN, List.getElem?_map] at h
  cases ho : ops.toList[j]? with
  | none => rw [ho] at h; cases h
  | some o =>
    rw [ho] at h
    exact ⟨o, by rw [← ho]; simp, by simpa using h.symm⟩
theorem tabN_of {j : Nat} {o : Oper} (h : ops[j]? = some o) : (tabN ops)[j]? = some (btOf ops o) := by
  rw [tabN, List.getElem?_map, show ops.toList[j]? = some o by simpa using h]
  rfl
theorem all_at {f : Nat → Bt → Bool} {g : Nat → List Bt → Bool} (hg : ∀ k c r, g k (c :: r) = (f k c && g (k + 1) r)) : ∀ (T : List Bt) (k : Nat), g k T = true → ∀ i c, T[i]? = some c → f (k + i) c = true
  | [], _, _, i, c, h => by simp at h
  | c :: r, k, h, i, c', hi => by
    rw [hg, Bool.and_eq_true] at h
    cases i with
    | zero => simp at hi; subst hi; exact h.1
    | succ i =>
      have := all_at hg r (k + 1) h.2 i c' (by simpa using hi)
      rw [show k + 1 + i = k + (i + 1) by omega] at this
      exact this
theorem getD_tf {k : Nat} (hl : l.size = ops.size) (hk : k < ops.size) : l.getD k true = l.getD k false := by
  simp [hl, hk]
theorem rdy_of {o : Oper} (hL : IsBt l L ops.size) : rdyN (btOf ops o) L = o.after.all (fun e => !Region.binds .any e || l.getD e.on false) := by
  apply Bool.eq_iff_iff.2
  show ((opA o &&& L == opA o) = true) ↔ _
  rw [Array.all_eq_true_iff_forall_mem]
  constructor
  · intro h e he
    by_cases hb : Region.binds .any e = true
    · rw [hL.2]
      have : L.testBit e.on = true := and_test h (by rw [opA_test, Array.any_eq_true']; exact ⟨e, he, by simp [hb]⟩)
      rw [this]; simp
    · simp [hb]
  · intro h
    apply and_all
    intro k hk
    rw [opA_test, Array.any_eq_true'] at hk
    obtain ⟨e, he, hb⟩ := hk
    simp only [Bool.and_eq_true, beq_iff_eq] at hb
    have := h e he
    rw [hb.1, hb.2] at this
    simpa [hL.2] using this
theorem mem_rdy {i : Nat} (hL : IsBt l L ops.size) : i ∈ Region.ready .any ops l ↔ ∃ o, ops[i]? = some o ∧ L.testBit i = false ∧ rdyN (btOf ops o) L = true := by
  unfold Region.ready
  rw [List.mem_filter, List.mem_range]
  constructor
  · rintro ⟨hi, h⟩
    obtain ⟨o, ho⟩ : ∃ o, ops[i]? = some o := ⟨ops[i], Array.getElem?_eq_some_iff.2 ⟨hi, rfl⟩⟩
    refine ⟨o, ho, ?_⟩
    rw [ho, getD_tf hL.1 hi, hL.2] at h
    simp only [Option.map_some, Option.getD_some, Bool.and_eq_true, Bool.not_eq_true'] at h
    exact ⟨h.1, by rw [rdy_of hL]; exact h.2⟩
  · rintro ⟨o, ho, h1, h2⟩
    have hi := (Array.getElem?_eq_some_iff.1 ho).1
    refine ⟨hi, ?_⟩
    rw [ho, getD_tf hL.1 hi, hL.2, h1]
    rw [rdy_of hL] at h2
    simpa using h2
theorem free_of {j : Nat} {o : Oper} (hL : IsBt l L ops.size) (ho : ops[j]? = some o) (h : freeN L j (btOf ops o) 0 (tabN ops) = true) : Region.free .any ops l j = true := by
  unfold Region.free
  rw [ho]
  simp only [List.all_eq_true, List.mem_range]
  intro k hk
  obtain ⟨ok, hok⟩ : ∃ o, ops[k]? = some o := ⟨ops[k], Array.getElem?_eq_some_iff.2 ⟨hk, rfl⟩⟩
  have h1 := all_at (f := fun k c => (k == j || L.testBit k || c.a.testBit j || ((btOf ops o).d &&& c.l == 0 && ((btOf ops o).d &&& c.d == 0) && (c.d &&& (btOf ops o).l == 0)))) (g := freeN L j (btOf ops o)) (fun _ _ _ => rfl) _ 0 h k _ (tabN_of hok)
  rw [Nat.zero_add] at h1
  rw [hok, getD_tf hL.1 hk, hL.2]
  simp only [Bool.or_eq_true] at h1 ⊢
  rcases h1 with ((h1 | h1) | h1) | h1
  · exact .inl (.inl h1)
  · exact .inl (.inr h1)
  · refine .inr (.inl ?_)
    rw [show (btOf ops ok).a = opA ok from rfl, opA_test] at h1
    exact h1
  · refine .inr (.inr ?_)
    simp only [Bool.and_eq_true] at h1
    obtain ⟨⟨h1, h2⟩, h3⟩ := h1
    unfold Oper.apart
    rw [Bool.and_eq_true]
    constructor
    · cases hd : o.dst with
      | none => rfl
      | some d =>
        have hb := opD_test hd
        have e1 := and_zero h1 hb
        have e2 := and_zero h2 hb
        rw [show (btOf ops ok).l = bits (ok.looksAt ops) from rfl, bits_test] at e1
        simp only [e1, Bool.not_false, Bool.true_and, bne_iff_ne, ne_eq]
        intro hd2
        rw [show (btOf ops ok).d = opD ok from rfl, opD_test hd2] at e2
        cases e2
    · cases hd : ok.dst with
      | none => rfl
      | some d =>
        have e1 := and_zero h3 (opD_test hd)
        rw [show (btOf ops o).l = bits (o.looksAt ops) from rfl, bits_test] at e1
        show (!(Oper.looksAt ops o).contains d) = true; rw [e1]; rfl
theorem closed_of (hL : IsBt l L ops.size) (h : closedN L 0 (tabN ops) = true) : Region.closedB .any ops l = true := by
  unfold Region.closedB
  simp only [List.all_eq_true, List.mem_range]
  intro k hk
  obtain ⟨ok, hok⟩ : ∃ o, ops[k]? = some o := ⟨ops[k], Array.getElem?_eq_some_iff.2 ⟨hk, rfl⟩⟩
  have h1 := all_at (f := fun k c => (!L.testBit k || rdyN c L)) (g := closedN L) (fun _ _ _ => rfl) _ 0 h k _ (tabN_of hok)
  rw [Nat.zero_add, rdy_of hL] at h1
  rw [hok, hL.2]
  exact h1
theorem only_of {j : Nat} (hL : IsBt l L ops.size) (h : onlyN L j 0 (tabN ops) = true) {k : Nat} (hk : k ∈ Region.ready .any ops l) : k = j := by
  obtain ⟨o, ho, h1, h2⟩ := (mem_rdy hL).1 hk
  have h3 := all_at (f := fun k c => (k == j || L.testBit k || !rdyN c L)) (g := onlyN L j) (fun _ _ _ => rfl) _ 0 h k _ (tabN_of ho)
  rw [Nat.zero_add, h1, h2] at h3
  simpa using h3
theorem ready_nodup : (Region.ready .any ops l).Nodup := by
  unfold Region.ready
  exact List.Pairwise.filter _ List.nodup_range
theorem single_of {j : Nat} {r : List Nat} (hn : r.Nodup) (hj : j ∈ r) (h : ∀ k ∈ r, k = j) : r = [j] := by
  match r, hn, hj, h with
  | [], _, hj, _ => cases hj
  | [x], _, _, h => rw [h x (by simp)]
  | x :: y :: r, hn, _, h =>
    exfalso
    have h1 := h x (by simp)
    have h2 := h y (by simp)
    simp [h1, h2] at hn
theorem lst_succ {n i : Nat} {ord : List (Nat × How)} {p : Nat × How} (hp : ord[i]? = some p) : lst n ord (i + 1) = (lst n ord i).setIfInBounds p.1 true := by
  unfold lst
  rw [List.take_add_one, hp, List.foldl_append]
  rfl
theorem step_of {p : Nat × How} (hL : IsBt l L ops.size) (hs : Region.noSelect ops = true) (h : stepN (tabN ops) L p = true) :
    chk1 ops [] l (l.setIfInBounds p.1 true) p = true ∧ IsBt (l.setIfInBounds p.1 true) (L ||| (1 <<< p.1)) ops.size := by
  have key : ∀ o, ops[p.1]? = some o → IsBt (l.setIfInBounds p.1 true) (L ||| (1 <<< p.1)) ops.size := by
    intro o ho
    have hi := (Array.getElem?_eq_some_iff.1 ho).1
    refine ⟨by simp [hL.1], fun k => ?_⟩
    rw [Nat.testBit_or, ← hL.2 k, Nat.one_shiftLeft, Nat.testBit_two_pow]
    by_cases e : p.1 = k
    · subst e
      simp [hL.1, hi]
    · simp [Array.getElem?_setIfInBounds_ne e, e, Array.getD_eq_getD_getElem?]
  obtain ⟨j, h0⟩ := p
  cases h0 with
  | pu =>
    simp only [stepN] at h
    split at h
    · rename_i b hb
      obtain ⟨o, ho, rfl⟩ := tabN_at hb
      simp only [Bool.and_eq_true, Bool.not_eq_true'] at h
      refine ⟨?_, key o ho⟩
      simp only [chk1, anyB, Bool.and_eq_true]
      exact ⟨⟨⟨hs, free_of hL ho h.2⟩, by simpa using (mem_rdy hL).2 ⟨o, ho, h.1.1, h.1.2⟩⟩, by simp⟩
    · cases h
  | tk =>
    simp only [stepN] at h
    split at h
    · rename_i b hb
      obtain ⟨o, ho, rfl⟩ := tabN_at hb
      simp only [Bool.and_eq_true, Bool.not_eq_true'] at h
      refine ⟨?_, key o ho⟩
      simp only [chk1, takeB, Bool.and_eq_true]
      exact ⟨⟨⟨⟨⟨hs, free_of hL ho h.1.2⟩, by simpa using (mem_rdy hL).2 ⟨o, ho, h.1.1.1, h.1.1.2⟩⟩, closed_of hL h.2⟩, rfl⟩, by simp⟩
    · cases h
  | on =>
    simp only [stepN] at h
    split at h
    · rename_i b hb
      obtain ⟨o, ho, rfl⟩ := tabN_at hb
      simp only [Bool.and_eq_true, Bool.not_eq_true'] at h
      refine ⟨?_, key o ho⟩
      have hr := single_of ready_nodup ((mem_rdy hL).2 ⟨o, ho, h.1.1, h.1.2⟩) (fun k hk => only_of hL h.2 hk)
      simp [chk1, readyB, hr]
    · cases h
  | ls => cases h
  | fk =>
    simp only [stepN] at h
    split at h
    · rename_i b hb
      obtain ⟨o, ho, rfl⟩ := tabN_at hb
      exact ⟨by simp [chk1], key o ho⟩
    · cases h
theorem run_of {ord : List (Nat × How)} (hs : Region.noSelect ops = true) : ∀ (r : List (Nat × How)) (i : Nat) (L : Nat), r = ord.drop i → IsBt (lst ops.size ord i) L ops.size → runN (tabN ops) L r = true →
    (∀ k p, ord[k]? = some p → i ≤ k → chk1 ops [] (lst ops.size ord k) (lst ops.size ord (k + 1)) p = true) ∧ (ord.length ≤ i ∨ ∃ L', IsBt (lst ops.size ord ord.length) L' ops.size ∧ onlyN L' ops.size 0 (tabN ops) = true) ∧ (ord.length = i → onlyN L ops.size 0 (tabN ops) = true)
  | [], i, L, hr, hL, h => by
    have hle : ord.length ≤ i := by
      have := congrArg List.length hr
      rw [List.length_drop] at this
      simp at this
      omega
    refine ⟨fun k p hp hk => ?_, .inl hle, fun _ => ?_⟩
    · have := (List.getElem?_eq_some_iff.1 hp).1
      omega
    · rw [runN, tabN_len] at h
      exact h
  | p :: r, i, L, hr, hL, h => by
    have hp : ord[i]? = some p := by
      have := congrArg (fun l => l[0]?) hr
      simp [List.getElem?_drop] at this
      exact this.symm
    have hr' : r = ord.drop (i + 1) := by
      have := congrArg List.tail hr
      simpa [List.tail_drop] using this
    have hi := (List.getElem?_eq_some_iff.1 hp).1
    rw [runN, Bool.and_eq_true, frc_eq] at h
    obtain ⟨h1, h2⟩ := step_of hL hs h.1
    rw [← lst_succ hp] at h1 h2
    obtain ⟨k1, k2, k3⟩ := run_of hs r (i + 1) _ hr' h2 h.2
    refine ⟨fun k q hq hk => ?_, .inr ?_, fun e => by omega⟩
    · by_cases e : k = i
      · subst e
        rw [hp] at hq
        cases hq
        exact h1
      · exact k1 k q hq (by omega)
    · rcases k2 with k2 | k2
      · have e : ord.length = i + 1 := by omega
        refine ⟨_, ?_, k3 e⟩
        rw [e]
        exact h2
      · exact k2
theorem chk_fast {ord : List (Nat × How)} (h : chkN ops ord = true) : chk ops [] ord = true := by
  rw [chkN, Bool.and_eq_true, Bool.and_eq_true, mkN_eq] at h
  obtain ⟨⟨h1, h2⟩, h3⟩ := h
  have hb0 : IsBt (lst ops.size ord 0) 0 ops.size := ⟨by simp [lst], fun k => by
    rw [Nat.zero_testBit]
    simp only [lst, List.take_zero, List.foldl_nil, Array.getD_eq_getD_getElem?]
    by_cases hk : k < ops.size
    · simp [hk]
    · simp [hk]⟩
  obtain ⟨k1, k2, k3⟩ := run_of h2 ord 0 0 rfl hb0 h3
  have hfin : ∃ L', IsBt (lst ops.size ord ord.length) L' ops.size ∧ onlyN L' ops.size 0 (tabN ops) = true := by
    rcases k2 with k2 | k2
    · have e : ord.length = 0 := by omega
      exact ⟨0, by rw [e]; exact hb0, k3 e⟩
    · exact k2
  obtain ⟨L', hL', ho⟩ := hfin
  have hlen : ord.length = ops.size := by simpa using h1
  unfold chk
  rw [Bool.and_eq_true, Bool.and_eq_true]
  refine ⟨⟨h1, ?_⟩, ?_⟩
  · rw [List.all_eq_true]
    intro i hi
    rw [List.mem_range] at hi
    rw [show ord[i]? = some ord[i] from List.getElem?_eq_some_iff.2 ⟨hi, rfl⟩]
    exact k1 i _ (List.getElem?_eq_some_iff.2 ⟨hi, rfl⟩) (Nat.zero_le _)
  · rw [beq_iff_eq]
    rw [hlen] at hL'
    rw [List.eq_nil_iff_forall_not_mem]
    intro k hk
    have e := only_of hL' ho hk
    have := (List.mem_filter.1 hk).1
    rw [List.mem_range] at this
    omega
end
end Go.Proofs.Ytommaijibiipeaa.Sk
