import Derived.Test.YtgnepnjicmgkaaaMs2
/-! The queue: what its memory holds; the short ones. -/
namespace Go.Proofs.Ytgnepnjicmgkaaa
open Go Go.RowKit Go.Proofs.Ytgnepnjicmgkaaa.Sk
set_option linter.unusedVariables false
set_option linter.unusedSimpArgs false
set_option maxRecDepth 100000

structure Adv where
  link : Int
  num : Int
  m1 : ByteArray
  f1 : List Tr
  m2 : ByteArray
  f2 : List Tr
def Adv.cells (a : Adv) (p : Value × Value) : List Value := [.int .i64 a.link, .int .i64 a.num, .string a.m1, p.1, .string a.m2, p.2]
def advCells : List Adv → List (Value × Value) → List Value
  | a :: l, p :: hs => a.cells p ++ advCells l hs
  | _, _ => []
theorem advCells_len : ∀ {l : List Adv} {hs : List (Value × Value)}, hs.length = l.length → (advCells l hs).length = l.length * 6
  | [], [], _ => rfl
  | a :: l, p :: hs, h => by
    have := advCells_len (l := l) (hs := hs) (by simpa using h)
    simp only [advCells, Adv.cells, List.length_append, List.length_cons, List.length_nil, this]
    omega
  | [], _ :: _, h => by simp at h
  | _ :: _, [], h => by simp at h
theorem advCells_at : ∀ {l : List Adv} {hs : List (Value × Value)} {i : Nat} {a : Adv} {p : Value × Value}, l[i]? = some a → hs[i]? = some p → ∀ j v, (a.cells p)[j]? = some v → (advCells l hs)[i * 6 + j]? = some v
  | [], _, _, _, _, h1, _, _, _, _ => by simp at h1
  | _ :: _, [], _, _, _, _, h2, _, _, _ => by simp at h2
  | a :: l, p :: hs, 0, _, _, h1, h2, j, v, hj => by
    simp at h1 h2
    subst h1; subst h2
    rw [Nat.zero_mul, Nat.zero_add]
    unfold advCells
    rw [List.getElem?_append_left (List.getElem?_eq_some_iff.1 hj).1]
    exact hj
  | a :: l, p :: hs, i + 1, _, _, h1, h2, j, v, hj => by
    simp only [List.getElem?_cons_succ] at h1 h2
    have := advCells_at h1 h2 j v hj
    have e : (i + 1) * 6 + j = (i * 6 + j) + 6 := by omega
    unfold advCells
    rw [e, List.getElem?_append_right (by simp [Adv.cells])]
    simpa [Adv.cells] using this
theorem advCells_snoc : ∀ {l : List Adv} {hs : List (Value × Value)} (a : Adv) (p : Value × Value), hs.length = l.length → advCells (l ++ [a]) (hs ++ [p]) = advCells l hs ++ a.cells p
  | [], [], _, _, _ => by simp [advCells]
  | b :: l, q :: hs, a, p, h => by
    have := advCells_snoc (l := l) (hs := hs) a p (by simpa using h)
    simp only [List.cons_append, advCells, this, List.append_assoc]
  | [], _ :: _, _, _, h => by simp at h
  | _ :: _, [], _, _, h => by simp at h
/-- An advice's messages. -/
def advC (k : Nat) (p : Value × Value) (a : Adv) : Chunk := star [nodesC 96 k 64 p.1 a.f1, nodesC 96 k 64 p.2 a.f2]
def advsC (k : Nat) (hs : List (Value × Value)) (l : List Adv) : List Chunk := List.zipWith (advC k) hs l
theorem advsC_snoc {k : Nat} {l : List Adv} {hs : List (Value × Value)} {a : Adv} {p : Value × Value} (h : hs.length = l.length) : advsC k (hs ++ [p]) (l ++ [a]) = advsC k hs l ++ [advC k p a] := by
  unfold advsC
  rw [List.zipWith_append h]
  rfl
structure Que where
  most : Int
  retry : Int
  tries : Int
  l : List Adv
  sent : Int
  under : Bool
  ticks : Int
  gone : List Int
  dead : Int
def queueC (k g : Nat) (Q : Que) : Chunk := exC fun hl => exC fun gh => exC fun hs => pureC (hs.length = Q.l.length)
  (star (.obj g (.cells #[.int .i64 Q.most, .int .i64 Q.retry, .int .i64 Q.tries, hl, .int .i64 Q.sent, .bool Q.under, .int .i64 Q.ticks, gh, .int .i64 Q.dead] 66 (0, 0)) ::
    rowC 33 6 hl Q.l.length (advCells Q.l hs) :: rowC 3 1 gh Q.gone.length (ints Q.gone) :: advsC k hs Q.l))
theorem queue_open0 {k g : Nat} {Q : Que} {w0 w : World} {F : List Chunk} : Sat w0 w (queueC k g Q :: F) ↔ ∃ hl gh hs, hs.length = Q.l.length ∧
    Sat w0 w (.obj g (.cells #[.int .i64 Q.most, .int .i64 Q.retry, .int .i64 Q.tries, hl, .int .i64 Q.sent, .bool Q.under, .int .i64 Q.ticks, gh, .int .i64 Q.dead] 66 (0, 0)) ::
      rowC 33 6 hl Q.l.length (advCells Q.l hs) :: rowC 3 1 gh Q.gone.length (ints Q.gone) :: (advsC k hs Q.l ++ F)) := by
  unfold queueC
  simp only [sat_ex, sat_pure, sat_star, List.cons_append]
/-- Opened, with its slices seen. -/
theorem queue_open {k g : Nat} {Q : Que} {w0 w : World} {F : List Chunk} (h : Sat w0 w (queueC k g Q :: F)) : ∃ o d p e hs, hs.length = Q.l.length ∧
    Sat w0 w (.obj g (.cells #[.int .i64 Q.most, .int .i64 Q.retry, .int .i64 Q.tries, .slice o Q.l.length d, .int .i64 Q.sent, .bool Q.under, .int .i64 Q.ticks, .slice p Q.gone.length e, .int .i64 Q.dead] 66 (0, 0)) ::
      rowC 33 6 (.slice o Q.l.length d) Q.l.length (advCells Q.l hs) :: rowC 3 1 (.slice p Q.gone.length e) Q.gone.length (ints Q.gone) :: (advsC k hs Q.l ++ F)) := by
  obtain ⟨hl, gh, hs, hlen, hS⟩ := queue_open0.1 h
  obtain ⟨o, d, rfl, _⟩ := row_val hS.tail
  obtain ⟨p, e, rfl, _⟩ := row_val hS.tail.tail
  exact ⟨o, d, p, e, hs, hlen, hS⟩

def Que.start (most retry tries : Int) : Que := ⟨most, retry, tries, [], 0, false, 0, [], 0⟩
def newOk (most retry tries : Int) : Prop := 1 ≤ most ∧ most ≤ 10000 ∧ 1 ≤ retry ∧ retry ≤ 100000 ∧ 1 ≤ tries ∧ tries ≤ 100
section short
variable {w0 w : World} {F : List Chunk} {k g : Nat} {Q : Que}
theorem new_c {most retry tries : Int} (hS : Sat w0 w F) (h : newOk most retry tries) : Calls Try.prog 8 #[.int .i64 most, .int .i64 retry, .int .i64 tries] w fun e w' => ∃ g, e = .returned (.tuple #[.pointer (some ⟨g, 0, none⟩), .int .i64 0]) ∧ Sat w0 w' (queueC k g (.start most retry tries) :: F) := by
  obtain ⟨h1, h2, h3, h4, h5, h6⟩ := h
  refine enter Try.func8 rfl Try.ntmps8 (Nat.le_of_ble_eq_true rfl) fun a hF => ?_
  refine wp_seq_k fun K0 hK0 => ?_
  -- region 0
  refine wp_region_lit ?_
  refine s_pu hF rfl rfl rfl (pu_assign (hF.ev rfl)) ?_; clear hF; intro a hF
  refine s_pu hF rfl rfl rfl (pu_assign (hF.ev rfl)) ?_; clear hF; intro a hF
  refine s_done ?_
  refine hK0 _ _ ?_; clear hK0
  refine wp_seq_k fun K1 hK1 => ?_
  refine wp_seq_k fun K2 hK2 => ?_
  -- region 1
  refine wp_region_lit ?_
  refine s_pu hF rfl rfl rfl (pu_move (hF.ev rfl)) ?_; clear hF; intro a hF
  refine s_pu hF rfl rfl rfl (pu_lss (hF.ev rfl) (hF.ev rfl)) ?_; clear hF; intro a hF
  refine s_pu hF rfl rfl rfl (pu_move (hF.ev rfl)) ?_; clear hF; intro a hF
  refine fr_split hF (t := 10) rfl ?_ ?_
  · clear hF; intro hg10 hF   -- slot 10 true
    try simp only [decide_eq_true_eq, decide_eq_false_iff_not, Bool.not_eq_true', Bool.not_eq_false', Int.not_lt, Int.not_le, ne_eq, Decidable.not_not, Bool.or_eq_true, Bool.or_eq_false_iff, Bool.and_eq_true, Bool.and_eq_false_imp] at hg10
    omega
  · clear hF; intro hg10 hF   -- slot 10 false
    try simp only [decide_eq_true_eq, decide_eq_false_iff_not, Bool.not_eq_true', Bool.not_eq_false', Int.not_lt, Int.not_le, ne_eq, Decidable.not_not, Bool.or_eq_true, Bool.or_eq_false_iff, Bool.and_eq_true, Bool.and_eq_false_imp] at hg10
    refine s_pu hF rfl rfl rfl (pu_move (hF.ev rfl)) ?_; clear hF; intro a hF
    refine s_pu hF rfl rfl rfl (pu_gtr (hF.ev rfl) (hF.ev rfl)) ?_; clear hF; intro a hF
    refine s_pu hF rfl rfl rfl ((by first | exact pu_pick_t (hF.ev rfl) (hF.ev rfl) | exact pu_pick_f (hF.ev rfl) (hF.ev rfl) | exact pu_pick (hF.ev rfl) (hF.ev rfl) (hF.ev rfl))) ?_; clear hF; intro a hF
    refine s_pu hF rfl rfl rfl (pu_move (hF.ev rfl)) ?_; clear hF; intro a hF
    refine fr_split hF (t := 14) rfl ?_ ?_
    · clear hF; intro hg14 hF   -- slot 14 true
      try simp only [decide_eq_true_eq, decide_eq_false_iff_not, Bool.not_eq_true', Bool.not_eq_false', Int.not_lt, Int.not_le, ne_eq, Decidable.not_not, Bool.or_eq_true, Bool.or_eq_false_iff, Bool.and_eq_true, Bool.and_eq_false_imp] at hg14
      omega
    · clear hF; intro hg14 hF   -- slot 14 false
      try simp only [decide_eq_true_eq, decide_eq_false_iff_not, Bool.not_eq_true', Bool.not_eq_false', Int.not_lt, Int.not_le, ne_eq, Decidable.not_not, Bool.or_eq_true, Bool.or_eq_false_iff, Bool.and_eq_true, Bool.and_eq_false_imp] at hg14
      refine s_pu hF rfl rfl rfl (pu_move (hF.ev rfl)) ?_; clear hF; intro a hF
      refine s_pu hF rfl rfl rfl (pu_lss (hF.ev rfl) (hF.ev rfl)) ?_; clear hF; intro a hF
      refine s_pu hF rfl rfl rfl ((by first | exact pu_pick_t (hF.ev rfl) (hF.ev rfl) | exact pu_pick_f (hF.ev rfl) (hF.ev rfl) | exact pu_pick (hF.ev rfl) (hF.ev rfl) (hF.ev rfl))) ?_; clear hF; intro a hF
      refine s_pu hF rfl rfl rfl (pu_move (hF.ev rfl)) ?_; clear hF; intro a hF
      refine fr_split hF (t := 18) rfl ?_ ?_
      · clear hF; intro hg18 hF   -- slot 18 true
        try simp only [decide_eq_true_eq, decide_eq_false_iff_not, Bool.not_eq_true', Bool.not_eq_false', Int.not_lt, Int.not_le, ne_eq, Decidable.not_not, Bool.or_eq_true, Bool.or_eq_false_iff, Bool.and_eq_true, Bool.and_eq_false_imp] at hg18
        omega
      · clear hF; intro hg18 hF   -- slot 18 false
        try simp only [decide_eq_true_eq, decide_eq_false_iff_not, Bool.not_eq_true', Bool.not_eq_false', Int.not_lt, Int.not_le, ne_eq, Decidable.not_not, Bool.or_eq_true, Bool.or_eq_false_iff, Bool.and_eq_true, Bool.and_eq_false_imp] at hg18
        refine s_pu hF rfl rfl rfl (pu_move (hF.ev rfl)) ?_; clear hF; intro a hF
        refine s_pu hF rfl rfl rfl (pu_gtr (hF.ev rfl) (hF.ev rfl)) ?_; clear hF; intro a hF
        refine s_pu hF rfl rfl rfl ((by first | exact pu_pick_t (hF.ev rfl) (hF.ev rfl) | exact pu_pick_f (hF.ev rfl) (hF.ev rfl) | exact pu_pick (hF.ev rfl) (hF.ev rfl) (hF.ev rfl))) ?_; clear hF; intro a hF
        refine s_pu hF rfl rfl rfl (pu_move (hF.ev rfl)) ?_; clear hF; intro a hF
        refine fr_split hF (t := 22) rfl ?_ ?_
        · clear hF; intro hg22 hF   -- slot 22 true
          try simp only [decide_eq_true_eq, decide_eq_false_iff_not, Bool.not_eq_true', Bool.not_eq_false', Int.not_lt, Int.not_le, ne_eq, Decidable.not_not, Bool.or_eq_true, Bool.or_eq_false_iff, Bool.and_eq_true, Bool.and_eq_false_imp] at hg22
          omega
        · clear hF; intro hg22 hF   -- slot 22 false
          try simp only [decide_eq_true_eq, decide_eq_false_iff_not, Bool.not_eq_true', Bool.not_eq_false', Int.not_lt, Int.not_le, ne_eq, Decidable.not_not, Bool.or_eq_true, Bool.or_eq_false_iff, Bool.and_eq_true, Bool.and_eq_false_imp] at hg22
          refine s_pu hF rfl rfl rfl (pu_move (hF.ev rfl)) ?_; clear hF; intro a hF
          refine s_pu hF rfl rfl rfl (pu_lss (hF.ev rfl) (hF.ev rfl)) ?_; clear hF; intro a hF
          refine s_pu hF rfl rfl rfl ((by first | exact pu_pick_t (hF.ev rfl) (hF.ev rfl) | exact pu_pick_f (hF.ev rfl) (hF.ev rfl) | exact pu_pick (hF.ev rfl) (hF.ev rfl) (hF.ev rfl))) ?_; clear hF; intro a hF
          refine s_pu hF rfl rfl rfl (pu_move (hF.ev rfl)) ?_; clear hF; intro a hF
          refine fr_split hF (t := 26) rfl ?_ ?_
          · clear hF; intro hg26 hF   -- slot 26 true
            try simp only [decide_eq_true_eq, decide_eq_false_iff_not, Bool.not_eq_true', Bool.not_eq_false', Int.not_lt, Int.not_le, ne_eq, Decidable.not_not, Bool.or_eq_true, Bool.or_eq_false_iff, Bool.and_eq_true, Bool.and_eq_false_imp] at hg26
            omega
          · clear hF; intro hg26 hF   -- slot 26 false
            try simp only [decide_eq_true_eq, decide_eq_false_iff_not, Bool.not_eq_true', Bool.not_eq_false', Int.not_lt, Int.not_le, ne_eq, Decidable.not_not, Bool.or_eq_true, Bool.or_eq_false_iff, Bool.and_eq_true, Bool.and_eq_false_imp] at hg26
            refine s_pu hF rfl rfl rfl (pu_move (hF.ev rfl)) ?_; clear hF; intro a hF
            refine s_pu hF rfl rfl rfl (pu_gtr (hF.ev rfl) (hF.ev rfl)) ?_; clear hF; intro a hF
            refine s_pu hF rfl rfl rfl ((by first | exact pu_pick_t (hF.ev rfl) (hF.ev rfl) | exact pu_pick_f (hF.ev rfl) (hF.ev rfl) | exact pu_pick (hF.ev rfl) (hF.ev rfl) (hF.ev rfl))) ?_; clear hF; intro a hF
            refine s_done ?_
            refine hK2 _ _ ?_; clear hK2
            refine wp_cond_split (hF.ev rfl) (fun hc0 => ?_) (fun hc0 => ?_)
            · -- cond 0 true
              try simp only [decide_eq_true_eq, decide_eq_false_iff_not, Bool.not_eq_true', Bool.not_eq_false', Int.not_lt, Int.not_le, ne_eq, Decidable.not_not, Bool.or_eq_true, Bool.or_eq_false_iff, Bool.and_eq_true, Bool.and_eq_false_imp] at hc0
              omega
            · -- cond 0 false
              try simp only [decide_eq_true_eq, decide_eq_false_iff_not, Bool.not_eq_true', Bool.not_eq_false', Int.not_lt, Int.not_le, ne_eq, Decidable.not_not, Bool.or_eq_true, Bool.or_eq_false_iff, Bool.and_eq_true, Bool.and_eq_false_imp] at hc0
              refine wp_skip ?_
              refine hK1 _ _ ?_; clear hK1
              refine wp_seq_k fun K3 hK3 => ?_
              -- region 3
              refine wp_region_lit ?_
              refine s_pu hF rfl rfl rfl (pu_move (hF.ev rfl)) ?_; clear hF; intro a hF
              refine s_pu hF rfl rfl rfl (pu_move (hF.ev rfl)) ?_; clear hF; intro a hF
              refine s_pu hF rfl rfl rfl (pu_move (hF.ev rfl)) ?_; clear hF; intro a hF
              refine s_pu hF rfl rfl rfl ((pu_build st66 (hF.evp rfl) rfl rfl : Pu _ _ _ (.agg #[_, _, _, _, _, _, _, _, _]))) ?_; clear hF; intro a hF
              refine s_newp hF rfl rfl rfl (ef_box (cs := #[_, _, _, _, _, _, _, _, _]) (hF.ev rfl) rfl) hS ?_; clear hF hS; intro b34 w hS a hF
              refine s_pu hF rfl rfl rfl (pu_assign (hF.ev rfl)) ?_; clear hF; intro a hF
              refine s_pu hF rfl rfl rfl (pu_assign (hF.ev rfl)) ?_; clear hF; intro a hF
              refine s_done ?_
              refine hK3 _ _ ?_; clear hK3
              refine wp_ret ?_
              refine fin2 Try.results8 hF rfl rfl ?_
              refine ⟨_, rfl, queue_open0.2 ⟨.slice none 0 0, .slice none 0 0, [], rfl, ?_⟩⟩
              exact (row_nil (E := 33) (sz := 6) (row_nil (E := 3) (sz := 1) hS)).sel [2]
theorem new_no {most retry tries : Int} (hS : Sat w0 w F) (h : ¬ newOk most retry tries) : Calls Try.prog 8 #[.int .i64 most, .int .i64 retry, .int .i64 tries] w fun e w' => e = .returned (.tuple #[.pointer none, .int .i64 1]) ∧ Sat w0 w' F := by
  unfold newOk at h
  refine enter Try.func8 rfl Try.ntmps8 (Nat.le_of_ble_eq_true rfl) fun a hF => ?_
  refine wp_seq_k fun K0 hK0 => ?_
  -- region 0
  refine wp_region_lit ?_
  refine s_pu hF rfl rfl rfl (pu_assign (hF.ev rfl)) ?_; clear hF; intro a hF
  refine s_pu hF rfl rfl rfl (pu_assign (hF.ev rfl)) ?_; clear hF; intro a hF
  refine s_done ?_
  refine hK0 _ _ ?_; clear hK0
  refine wp_seq_k fun K1 hK1 => ?_
  refine wp_seq_k fun K2 hK2 => ?_
  -- region 1
  refine wp_region_lit ?_
  refine s_pu hF rfl rfl rfl (pu_move (hF.ev rfl)) ?_; clear hF; intro a hF
  refine s_pu hF rfl rfl rfl (pu_lss (hF.ev rfl) (hF.ev rfl)) ?_; clear hF; intro a hF
  refine s_pu hF rfl rfl rfl (pu_move (hF.ev rfl)) ?_; clear hF; intro a hF
  refine fr_split hF (t := 10) rfl ?_ ?_
  · clear hF; intro hg10 hF   -- slot 10 true
    try simp only [decide_eq_true_eq, decide_eq_false_iff_not, Bool.not_eq_true', Bool.not_eq_false', Int.not_lt, Int.not_le, ne_eq, Decidable.not_not, Bool.or_eq_true, Bool.or_eq_false_iff, Bool.and_eq_true, Bool.and_eq_false_imp] at hg10
    refine s_no hF rfl rfl rfl ?_; clear hF; intro a hF
    refine s_no hF rfl rfl rfl ?_; clear hF; intro a hF
    refine s_pu hF rfl rfl rfl ((by first | exact pu_pick_t (hF.ev rfl) (hF.ev rfl) | exact pu_pick_f (hF.ev rfl) (hF.ev rfl) | exact pu_pick (hF.ev rfl) (hF.ev rfl) (hF.ev rfl))) ?_; clear hF; intro a hF
    refine s_pu hF rfl rfl rfl (pu_move (hF.ev rfl)) ?_; clear hF; intro a hF
    refine s_no hF rfl rfl rfl ?_; clear hF; intro a hF
    refine s_no hF rfl rfl rfl ?_; clear hF; intro a hF
    refine s_pu hF rfl rfl rfl ((by first | exact pu_pick_t (hF.ev rfl) (hF.ev rfl) | exact pu_pick_f (hF.ev rfl) (hF.ev rfl) | exact pu_pick (hF.ev rfl) (hF.ev rfl) (hF.ev rfl))) ?_; clear hF; intro a hF
    refine s_pu hF rfl rfl rfl (pu_move (hF.ev rfl)) ?_; clear hF; intro a hF
    refine s_no hF rfl rfl rfl ?_; clear hF; intro a hF
    refine s_no hF rfl rfl rfl ?_; clear hF; intro a hF
    refine s_pu hF rfl rfl rfl ((by first | exact pu_pick_t (hF.ev rfl) (hF.ev rfl) | exact pu_pick_f (hF.ev rfl) (hF.ev rfl) | exact pu_pick (hF.ev rfl) (hF.ev rfl) (hF.ev rfl))) ?_; clear hF; intro a hF
    refine s_pu hF rfl rfl rfl (pu_move (hF.ev rfl)) ?_; clear hF; intro a hF
    refine s_no hF rfl rfl rfl ?_; clear hF; intro a hF
    refine s_no hF rfl rfl rfl ?_; clear hF; intro a hF
    refine s_pu hF rfl rfl rfl ((by first | exact pu_pick_t (hF.ev rfl) (hF.ev rfl) | exact pu_pick_f (hF.ev rfl) (hF.ev rfl) | exact pu_pick (hF.ev rfl) (hF.ev rfl) (hF.ev rfl))) ?_; clear hF; intro a hF
    refine s_pu hF rfl rfl rfl (pu_move (hF.ev rfl)) ?_; clear hF; intro a hF
    refine s_no hF rfl rfl rfl ?_; clear hF; intro a hF
    refine s_no hF rfl rfl rfl ?_; clear hF; intro a hF
    refine s_pu hF rfl rfl rfl ((by first | exact pu_pick_t (hF.ev rfl) (hF.ev rfl) | exact pu_pick_f (hF.ev rfl) (hF.ev rfl) | exact pu_pick (hF.ev rfl) (hF.ev rfl) (hF.ev rfl))) ?_; clear hF; intro a hF
    refine s_done ?_
    refine hK2 _ _ ?_; clear hK2
    refine wp_cond_true (hF.ev rfl) ?_
    refine wp_seq_k fun K3 hK3 => ?_
    -- region 2
    refine wp_region_lit ?_
    refine s_pu hF rfl rfl rfl (pu_assign (hF.ev rfl)) ?_; clear hF; intro a hF
    refine s_pu hF rfl rfl rfl (pu_assign (hF.ev rfl)) ?_; clear hF; intro a hF
    refine s_done ?_
    refine hK3 _ _ ?_; clear hK3
    refine wp_ret ?_
    refine then_ret ?_
    refine fin2 Try.results8 hF rfl rfl ?_
    exact ⟨rfl, hS⟩
  · clear hF; intro hg10 hF   -- slot 10 false
    try simp only [decide_eq_true_eq, decide_eq_false_iff_not, Bool.not_eq_true', Bool.not_eq_false', Int.not_lt, Int.not_le, ne_eq, Decidable.not_not, Bool.or_eq_true, Bool.or_eq_false_iff, Bool.and_eq_true, Bool.and_eq_false_imp] at hg10
    refine s_pu hF rfl rfl rfl (pu_move (hF.ev rfl)) ?_; clear hF; intro a hF
    refine s_pu hF rfl rfl rfl (pu_gtr (hF.ev rfl) (hF.ev rfl)) ?_; clear hF; intro a hF
    refine s_pu hF rfl rfl rfl ((by first | exact pu_pick_t (hF.ev rfl) (hF.ev rfl) | exact pu_pick_f (hF.ev rfl) (hF.ev rfl) | exact pu_pick (hF.ev rfl) (hF.ev rfl) (hF.ev rfl))) ?_; clear hF; intro a hF
    refine s_pu hF rfl rfl rfl (pu_move (hF.ev rfl)) ?_; clear hF; intro a hF
    refine fr_split hF (t := 14) rfl ?_ ?_
    · clear hF; intro hg14 hF   -- slot 14 true
      try simp only [decide_eq_true_eq, decide_eq_false_iff_not, Bool.not_eq_true', Bool.not_eq_false', Int.not_lt, Int.not_le, ne_eq, Decidable.not_not, Bool.or_eq_true, Bool.or_eq_false_iff, Bool.and_eq_true, Bool.and_eq_false_imp] at hg14
      refine s_no hF rfl rfl rfl ?_; clear hF; intro a hF
      refine s_no hF rfl rfl rfl ?_; clear hF; intro a hF
      refine s_pu hF rfl rfl rfl ((by first | exact pu_pick_t (hF.ev rfl) (hF.ev rfl) | exact pu_pick_f (hF.ev rfl) (hF.ev rfl) | exact pu_pick (hF.ev rfl) (hF.ev rfl) (hF.ev rfl))) ?_; clear hF; intro a hF
      refine s_pu hF rfl rfl rfl (pu_move (hF.ev rfl)) ?_; clear hF; intro a hF
      refine s_no hF rfl rfl rfl ?_; clear hF; intro a hF
      refine s_no hF rfl rfl rfl ?_; clear hF; intro a hF
      refine s_pu hF rfl rfl rfl ((by first | exact pu_pick_t (hF.ev rfl) (hF.ev rfl) | exact pu_pick_f (hF.ev rfl) (hF.ev rfl) | exact pu_pick (hF.ev rfl) (hF.ev rfl) (hF.ev rfl))) ?_; clear hF; intro a hF
      refine s_pu hF rfl rfl rfl (pu_move (hF.ev rfl)) ?_; clear hF; intro a hF
      refine s_no hF rfl rfl rfl ?_; clear hF; intro a hF
      refine s_no hF rfl rfl rfl ?_; clear hF; intro a hF
      refine s_pu hF rfl rfl rfl ((by first | exact pu_pick_t (hF.ev rfl) (hF.ev rfl) | exact pu_pick_f (hF.ev rfl) (hF.ev rfl) | exact pu_pick (hF.ev rfl) (hF.ev rfl) (hF.ev rfl))) ?_; clear hF; intro a hF
      refine s_pu hF rfl rfl rfl (pu_move (hF.ev rfl)) ?_; clear hF; intro a hF
      refine s_no hF rfl rfl rfl ?_; clear hF; intro a hF
      refine s_no hF rfl rfl rfl ?_; clear hF; intro a hF
      refine s_pu hF rfl rfl rfl ((by first | exact pu_pick_t (hF.ev rfl) (hF.ev rfl) | exact pu_pick_f (hF.ev rfl) (hF.ev rfl) | exact pu_pick (hF.ev rfl) (hF.ev rfl) (hF.ev rfl))) ?_; clear hF; intro a hF
      refine s_done ?_
      refine hK2 _ _ ?_; clear hK2
      refine wp_cond_true (hF.ev rfl) ?_
      refine wp_seq_k fun K3 hK3 => ?_
      -- region 2
      refine wp_region_lit ?_
      refine s_pu hF rfl rfl rfl (pu_assign (hF.ev rfl)) ?_; clear hF; intro a hF
      refine s_pu hF rfl rfl rfl (pu_assign (hF.ev rfl)) ?_; clear hF; intro a hF
      refine s_done ?_
      refine hK3 _ _ ?_; clear hK3
      refine wp_ret ?_
      refine then_ret ?_
      refine fin2 Try.results8 hF rfl rfl ?_
      exact ⟨rfl, hS⟩
    · clear hF; intro hg14 hF   -- slot 14 false
      try simp only [decide_eq_true_eq, decide_eq_false_iff_not, Bool.not_eq_true', Bool.not_eq_false', Int.not_lt, Int.not_le, ne_eq, Decidable.not_not, Bool.or_eq_true, Bool.or_eq_false_iff, Bool.and_eq_true, Bool.and_eq_false_imp] at hg14
      refine s_pu hF rfl rfl rfl (pu_move (hF.ev rfl)) ?_; clear hF; intro a hF
      refine s_pu hF rfl rfl rfl (pu_lss (hF.ev rfl) (hF.ev rfl)) ?_; clear hF; intro a hF
      refine s_pu hF rfl rfl rfl ((by first | exact pu_pick_t (hF.ev rfl) (hF.ev rfl) | exact pu_pick_f (hF.ev rfl) (hF.ev rfl) | exact pu_pick (hF.ev rfl) (hF.ev rfl) (hF.ev rfl))) ?_; clear hF; intro a hF
      refine s_pu hF rfl rfl rfl (pu_move (hF.ev rfl)) ?_; clear hF; intro a hF
      refine fr_split hF (t := 18) rfl ?_ ?_
      · clear hF; intro hg18 hF   -- slot 18 true
        try simp only [decide_eq_true_eq, decide_eq_false_iff_not, Bool.not_eq_true', Bool.not_eq_false', Int.not_lt, Int.not_le, ne_eq, Decidable.not_not, Bool.or_eq_true, Bool.or_eq_false_iff, Bool.and_eq_true, Bool.and_eq_false_imp] at hg18
        refine s_no hF rfl rfl rfl ?_; clear hF; intro a hF
        refine s_no hF rfl rfl rfl ?_; clear hF; intro a hF
        refine s_pu hF rfl rfl rfl ((by first | exact pu_pick_t (hF.ev rfl) (hF.ev rfl) | exact pu_pick_f (hF.ev rfl) (hF.ev rfl) | exact pu_pick (hF.ev rfl) (hF.ev rfl) (hF.ev rfl))) ?_; clear hF; intro a hF
        refine s_pu hF rfl rfl rfl (pu_move (hF.ev rfl)) ?_; clear hF; intro a hF
        refine s_no hF rfl rfl rfl ?_; clear hF; intro a hF
        refine s_no hF rfl rfl rfl ?_; clear hF; intro a hF
        refine s_pu hF rfl rfl rfl ((by first | exact pu_pick_t (hF.ev rfl) (hF.ev rfl) | exact pu_pick_f (hF.ev rfl) (hF.ev rfl) | exact pu_pick (hF.ev rfl) (hF.ev rfl) (hF.ev rfl))) ?_; clear hF; intro a hF
        refine s_pu hF rfl rfl rfl (pu_move (hF.ev rfl)) ?_; clear hF; intro a hF
        refine s_no hF rfl rfl rfl ?_; clear hF; intro a hF
        refine s_no hF rfl rfl rfl ?_; clear hF; intro a hF
        refine s_pu hF rfl rfl rfl ((by first | exact pu_pick_t (hF.ev rfl) (hF.ev rfl) | exact pu_pick_f (hF.ev rfl) (hF.ev rfl) | exact pu_pick (hF.ev rfl) (hF.ev rfl) (hF.ev rfl))) ?_; clear hF; intro a hF
        refine s_done ?_
        refine hK2 _ _ ?_; clear hK2
        refine wp_cond_true (hF.ev rfl) ?_
        refine wp_seq_k fun K3 hK3 => ?_
        -- region 2
        refine wp_region_lit ?_
        refine s_pu hF rfl rfl rfl (pu_assign (hF.ev rfl)) ?_; clear hF; intro a hF
        refine s_pu hF rfl rfl rfl (pu_assign (hF.ev rfl)) ?_; clear hF; intro a hF
        refine s_done ?_
        refine hK3 _ _ ?_; clear hK3
        refine wp_ret ?_
        refine then_ret ?_
        refine fin2 Try.results8 hF rfl rfl ?_
        exact ⟨rfl, hS⟩
      · clear hF; intro hg18 hF   -- slot 18 false
        try simp only [decide_eq_true_eq, decide_eq_false_iff_not, Bool.not_eq_true', Bool.not_eq_false', Int.not_lt, Int.not_le, ne_eq, Decidable.not_not, Bool.or_eq_true, Bool.or_eq_false_iff, Bool.and_eq_true, Bool.and_eq_false_imp] at hg18
        refine s_pu hF rfl rfl rfl (pu_move (hF.ev rfl)) ?_; clear hF; intro a hF
        refine s_pu hF rfl rfl rfl (pu_gtr (hF.ev rfl) (hF.ev rfl)) ?_; clear hF; intro a hF
        refine s_pu hF rfl rfl rfl ((by first | exact pu_pick_t (hF.ev rfl) (hF.ev rfl) | exact pu_pick_f (hF.ev rfl) (hF.ev rfl) | exact pu_pick (hF.ev rfl) (hF.ev rfl) (hF.ev rfl))) ?_; clear hF; intro a hF
        refine s_pu hF rfl rfl rfl (pu_move (hF.ev rfl)) ?_; clear hF; intro a hF
        refine fr_split hF (t := 22) rfl ?_ ?_
        · clear hF; intro hg22 hF   -- slot 22 true
          try simp only [decide_eq_true_eq, decide_eq_false_iff_not, Bool.not_eq_true', Bool.not_eq_false', Int.not_lt, Int.not_le, ne_eq, Decidable.not_not, Bool.or_eq_true, Bool.or_eq_false_iff, Bool.and_eq_true, Bool.and_eq_false_imp] at hg22
          refine s_no hF rfl rfl rfl ?_; clear hF; intro a hF
          refine s_no hF rfl rfl rfl ?_; clear hF; intro a hF
          refine s_pu hF rfl rfl rfl ((by first | exact pu_pick_t (hF.ev rfl) (hF.ev rfl) | exact pu_pick_f (hF.ev rfl) (hF.ev rfl) | exact pu_pick (hF.ev rfl) (hF.ev rfl) (hF.ev rfl))) ?_; clear hF; intro a hF
          refine s_pu hF rfl rfl rfl (pu_move (hF.ev rfl)) ?_; clear hF; intro a hF
          refine s_no hF rfl rfl rfl ?_; clear hF; intro a hF
          refine s_no hF rfl rfl rfl ?_; clear hF; intro a hF
          refine s_pu hF rfl rfl rfl ((by first | exact pu_pick_t (hF.ev rfl) (hF.ev rfl) | exact pu_pick_f (hF.ev rfl) (hF.ev rfl) | exact pu_pick (hF.ev rfl) (hF.ev rfl) (hF.ev rfl))) ?_; clear hF; intro a hF
          refine s_done ?_
          refine hK2 _ _ ?_; clear hK2
          refine wp_cond_true (hF.ev rfl) ?_
          refine wp_seq_k fun K3 hK3 => ?_
          -- region 2
          refine wp_region_lit ?_
          refine s_pu hF rfl rfl rfl (pu_assign (hF.ev rfl)) ?_; clear hF; intro a hF
          refine s_pu hF rfl rfl rfl (pu_assign (hF.ev rfl)) ?_; clear hF; intro a hF
          refine s_done ?_
          refine hK3 _ _ ?_; clear hK3
          refine wp_ret ?_
          refine then_ret ?_
          refine fin2 Try.results8 hF rfl rfl ?_
          exact ⟨rfl, hS⟩
        · clear hF; intro hg22 hF   -- slot 22 false
          try simp only [decide_eq_true_eq, decide_eq_false_iff_not, Bool.not_eq_true', Bool.not_eq_false', Int.not_lt, Int.not_le, ne_eq, Decidable.not_not, Bool.or_eq_true, Bool.or_eq_false_iff, Bool.and_eq_true, Bool.and_eq_false_imp] at hg22
          refine s_pu hF rfl rfl rfl (pu_move (hF.ev rfl)) ?_; clear hF; intro a hF
          refine s_pu hF rfl rfl rfl (pu_lss (hF.ev rfl) (hF.ev rfl)) ?_; clear hF; intro a hF
          refine s_pu hF rfl rfl rfl ((by first | exact pu_pick_t (hF.ev rfl) (hF.ev rfl) | exact pu_pick_f (hF.ev rfl) (hF.ev rfl) | exact pu_pick (hF.ev rfl) (hF.ev rfl) (hF.ev rfl))) ?_; clear hF; intro a hF
          refine s_pu hF rfl rfl rfl (pu_move (hF.ev rfl)) ?_; clear hF; intro a hF
          refine fr_split hF (t := 26) rfl ?_ ?_
          · clear hF; intro hg26 hF   -- slot 26 true
            try simp only [decide_eq_true_eq, decide_eq_false_iff_not, Bool.not_eq_true', Bool.not_eq_false', Int.not_lt, Int.not_le, ne_eq, Decidable.not_not, Bool.or_eq_true, Bool.or_eq_false_iff, Bool.and_eq_true, Bool.and_eq_false_imp] at hg26
            refine s_no hF rfl rfl rfl ?_; clear hF; intro a hF
            refine s_no hF rfl rfl rfl ?_; clear hF; intro a hF
            refine s_pu hF rfl rfl rfl ((by first | exact pu_pick_t (hF.ev rfl) (hF.ev rfl) | exact pu_pick_f (hF.ev rfl) (hF.ev rfl) | exact pu_pick (hF.ev rfl) (hF.ev rfl) (hF.ev rfl))) ?_; clear hF; intro a hF
            refine s_done ?_
            refine hK2 _ _ ?_; clear hK2
            refine wp_cond_true (hF.ev rfl) ?_
            refine wp_seq_k fun K3 hK3 => ?_
            -- region 2
            refine wp_region_lit ?_
            refine s_pu hF rfl rfl rfl (pu_assign (hF.ev rfl)) ?_; clear hF; intro a hF
            refine s_pu hF rfl rfl rfl (pu_assign (hF.ev rfl)) ?_; clear hF; intro a hF
            refine s_done ?_
            refine hK3 _ _ ?_; clear hK3
            refine wp_ret ?_
            refine then_ret ?_
            refine fin2 Try.results8 hF rfl rfl ?_
            exact ⟨rfl, hS⟩
          · clear hF; intro hg26 hF   -- slot 26 false
            try simp only [decide_eq_true_eq, decide_eq_false_iff_not, Bool.not_eq_true', Bool.not_eq_false', Int.not_lt, Int.not_le, ne_eq, Decidable.not_not, Bool.or_eq_true, Bool.or_eq_false_iff, Bool.and_eq_true, Bool.and_eq_false_imp] at hg26
            refine s_pu hF rfl rfl rfl (pu_move (hF.ev rfl)) ?_; clear hF; intro a hF
            refine s_pu hF rfl rfl rfl (pu_gtr (hF.ev rfl) (hF.ev rfl)) ?_; clear hF; intro a hF
            refine s_pu hF rfl rfl rfl ((by first | exact pu_pick_t (hF.ev rfl) (hF.ev rfl) | exact pu_pick_f (hF.ev rfl) (hF.ev rfl) | exact pu_pick (hF.ev rfl) (hF.ev rfl) (hF.ev rfl))) ?_; clear hF; intro a hF
            refine s_done ?_
            refine hK2 _ _ ?_; clear hK2
            refine wp_cond_split (hF.ev rfl) (fun hc0 => ?_) (fun hc0 => ?_)
            · -- cond 0 true
              try simp only [decide_eq_true_eq, decide_eq_false_iff_not, Bool.not_eq_true', Bool.not_eq_false', Int.not_lt, Int.not_le, ne_eq, Decidable.not_not, Bool.or_eq_true, Bool.or_eq_false_iff, Bool.and_eq_true, Bool.and_eq_false_imp] at hc0
              refine wp_seq_k fun K3 hK3 => ?_
              -- region 2
              refine wp_region_lit ?_
              refine s_pu hF rfl rfl rfl (pu_assign (hF.ev rfl)) ?_; clear hF; intro a hF
              refine s_pu hF rfl rfl rfl (pu_assign (hF.ev rfl)) ?_; clear hF; intro a hF
              refine s_done ?_
              refine hK3 _ _ ?_; clear hK3
              refine wp_ret ?_
              refine then_ret ?_
              refine fin2 Try.results8 hF rfl rfl ?_
              exact ⟨rfl, hS⟩
            · -- cond 0 false
              try simp only [decide_eq_true_eq, decide_eq_false_iff_not, Bool.not_eq_true', Bool.not_eq_false', Int.not_lt, Int.not_le, ne_eq, Decidable.not_not, Bool.or_eq_true, Bool.or_eq_false_iff, Bool.and_eq_true, Bool.and_eq_false_imp] at hc0
              omega
theorem len_c (hS : Sat w0 w (queueC k g Q :: F)) : Calls Try.prog 12 #[.pointer (some ⟨g, 0, none⟩)] w fun e w' => e = .returned (.int .i64 Q.l.length) ∧ Sat w0 w' (queueC k g Q :: F) := by
  obtain ⟨o, d, p, e, hs, hl, hS⟩ := queue_open hS
  refine enter Try.func12 rfl Try.ntmps12 (Nat.le_of_ble_eq_true rfl) fun a hF => ?_
  refine wp_seq_k fun K0 hK0 => ?_
  -- region 0
  refine wp_region_lit ?_
  refine s_pu hF rfl rfl rfl (pu_assign (hF.ev rfl)) ?_; clear hF; intro a hF
  refine s_done ?_
  refine hK0 _ _ ?_; clear hK0
  refine wp_seq_k fun K1 hK1 => ?_
  -- region 1
  refine wp_region_lit ?_
  refine s_pu hF rfl rfl rfl (pu_move (hF.ev rfl)) ?_; clear hF; intro a hF
  refine s_pu hF rfl rfl rfl ((by first | exact pu_nil (hF.ev rfl) | exact pu_nilf (hF.ev rfl))) ?_; clear hF; intro a hF
  refine s_pu hF rfl rfl rfl (pu_field fd66_3 (hF.ev rfl)) ?_; clear hF; intro a hF
  refine s_rd hF rfl rfl rfl (by first | exact rd_load pl41 (hF.ev rfl) (by assumption) | exact rd_load pl41 (hF.ev rfl) (hS.cellL (i := 0) rfl rfl) | exact rd_load pl41 (hF.ev rfl) (hS.cellL (i := 1) rfl rfl) | exact rd_load pl41 (hF.ev rfl) (hS.cellL (i := 2) rfl rfl) | exact rd_load pl41 (hF.ev rfl) (hS.cellL (i := 3) rfl rfl) | exact rd_load pl41 (hF.ev rfl) (hS.cellL (i := 4) rfl rfl) | exact rd_load pl41 (hF.ev rfl) (hS.cellL (i := 5) rfl rfl) | exact rd_load pl41 (hF.ev rfl) (hS.cell (i := 0) rfl (by assumption)) | exact rd_load pl41 (hF.ev rfl) (hS.cell (i := 1) rfl (by assumption)) | exact rd_load pl41 (hF.ev rfl) (hS.cell (i := 2) rfl (by assumption)) | exact rd_load pl41 (hF.ev rfl) (hS.cell (i := 3) rfl (by assumption)) | exact rd_load pl41 (hF.ev rfl) (hS.cell (i := 4) rfl (by assumption)) | exact rd_load pl41 (hF.ev rfl) (hS.cell (i := 5) rfl (by assumption)) | exact rd_load pl41 (hF.ev rfl) (row_at (i := 0) hS rfl (by first | assumption | rfl)) | exact rd_load pl41 (hF.ev rfl) (row_at0 (i := 0) hS rfl (by first | assumption | rfl)) | exact rd_load pl41 (hF.ev rfl) (row_at (i := 1) hS rfl (by first | assumption | rfl)) | exact rd_load pl41 (hF.ev rfl) (row_at0 (i := 1) hS rfl (by first | assumption | rfl)) | exact rd_load pl41 (hF.ev rfl) (row_at (i := 2) hS rfl (by first | assumption | rfl)) | exact rd_load pl41 (hF.ev rfl) (row_at0 (i := 2) hS rfl (by first | assumption | rfl)) | exact rd_load pl41 (hF.ev rfl) (row_at (i := 3) hS rfl (by first | assumption | rfl)) | exact rd_load pl41 (hF.ev rfl) (row_at0 (i := 3) hS rfl (by first | assumption | rfl)) | exact rd_load pl41 (hF.ev rfl) (row_at (i := 4) hS rfl (by first | assumption | rfl)) | exact rd_load pl41 (hF.ev rfl) (row_at0 (i := 4) hS rfl (by first | assumption | rfl)) | exact rd_load pl41 (hF.ev rfl) (row_at (i := 5) hS rfl (by first | assumption | rfl)) | exact rd_load pl41 (hF.ev rfl) (row_at0 (i := 5) hS rfl (by first | assumption | rfl))) ?_; clear hF; intro a hF
  refine s_pu hF rfl rfl rfl (pu_len sl41 (hF.ev rfl)) ?_; clear hF; intro a hF
  refine s_pu hF rfl rfl rfl (pu_assign (hF.ev rfl)) ?_; clear hF; intro a hF
  refine s_done ?_
  refine hK1 _ _ ?_; clear hK1
  refine wp_ret ?_
  refine fin1 Try.results12 hF rfl ?_
  exact ⟨rfl, queue_open0.2 ⟨_, _, hs, hl, hS⟩⟩
theorem dead_c (hS : Sat w0 w (queueC k g Q :: F)) : Calls Try.prog 15 #[.pointer (some ⟨g, 0, none⟩)] w fun e w' => e = .returned (.int .i64 Q.dead) ∧ Sat w0 w' (queueC k g Q :: F) := by
  obtain ⟨o, d, p, e, hs, hl, hS⟩ := queue_open hS
  refine enter Try.func15 rfl Try.ntmps15 (Nat.le_of_ble_eq_true rfl) fun a hF => ?_
  refine wp_seq_k fun K0 hK0 => ?_
  -- region 0
  refine wp_region_lit ?_
  refine s_pu hF rfl rfl rfl (pu_assign (hF.ev rfl)) ?_; clear hF; intro a hF
  refine s_done ?_
  refine hK0 _ _ ?_; clear hK0
  refine wp_seq_k fun K1 hK1 => ?_
  -- region 1
  refine wp_region_lit ?_
  refine s_pu hF rfl rfl rfl (pu_move (hF.ev rfl)) ?_; clear hF; intro a hF
  refine s_pu hF rfl rfl rfl ((by first | exact pu_nil (hF.ev rfl) | exact pu_nilf (hF.ev rfl))) ?_; clear hF; intro a hF
  refine s_pu hF rfl rfl rfl (pu_field fd66_8 (hF.ev rfl)) ?_; clear hF; intro a hF
  refine s_rd hF rfl rfl rfl (by first | exact rd_load pl3 (hF.ev rfl) (by assumption) | exact rd_load pl3 (hF.ev rfl) (hS.cellL (i := 0) rfl rfl) | exact rd_load pl3 (hF.ev rfl) (hS.cellL (i := 1) rfl rfl) | exact rd_load pl3 (hF.ev rfl) (hS.cellL (i := 2) rfl rfl) | exact rd_load pl3 (hF.ev rfl) (hS.cellL (i := 3) rfl rfl) | exact rd_load pl3 (hF.ev rfl) (hS.cellL (i := 4) rfl rfl) | exact rd_load pl3 (hF.ev rfl) (hS.cellL (i := 5) rfl rfl) | exact rd_load pl3 (hF.ev rfl) (hS.cell (i := 0) rfl (by assumption)) | exact rd_load pl3 (hF.ev rfl) (hS.cell (i := 1) rfl (by assumption)) | exact rd_load pl3 (hF.ev rfl) (hS.cell (i := 2) rfl (by assumption)) | exact rd_load pl3 (hF.ev rfl) (hS.cell (i := 3) rfl (by assumption)) | exact rd_load pl3 (hF.ev rfl) (hS.cell (i := 4) rfl (by assumption)) | exact rd_load pl3 (hF.ev rfl) (hS.cell (i := 5) rfl (by assumption)) | exact rd_load pl3 (hF.ev rfl) (row_at (i := 0) hS rfl (by first | assumption | rfl)) | exact rd_load pl3 (hF.ev rfl) (row_at0 (i := 0) hS rfl (by first | assumption | rfl)) | exact rd_load pl3 (hF.ev rfl) (row_at (i := 1) hS rfl (by first | assumption | rfl)) | exact rd_load pl3 (hF.ev rfl) (row_at0 (i := 1) hS rfl (by first | assumption | rfl)) | exact rd_load pl3 (hF.ev rfl) (row_at (i := 2) hS rfl (by first | assumption | rfl)) | exact rd_load pl3 (hF.ev rfl) (row_at0 (i := 2) hS rfl (by first | assumption | rfl)) | exact rd_load pl3 (hF.ev rfl) (row_at (i := 3) hS rfl (by first | assumption | rfl)) | exact rd_load pl3 (hF.ev rfl) (row_at0 (i := 3) hS rfl (by first | assumption | rfl)) | exact rd_load pl3 (hF.ev rfl) (row_at (i := 4) hS rfl (by first | assumption | rfl)) | exact rd_load pl3 (hF.ev rfl) (row_at0 (i := 4) hS rfl (by first | assumption | rfl)) | exact rd_load pl3 (hF.ev rfl) (row_at (i := 5) hS rfl (by first | assumption | rfl)) | exact rd_load pl3 (hF.ev rfl) (row_at0 (i := 5) hS rfl (by first | assumption | rfl))) ?_; clear hF; intro a hF
  refine s_pu hF rfl rfl rfl (pu_assign (hF.ev rfl)) ?_; clear hF; intro a hF
  refine s_done ?_
  refine hK1 _ _ ?_; clear hK1
  refine wp_ret ?_
  refine fin1 Try.results15 hF rfl ?_
  exact ⟨rfl, queue_open0.2 ⟨_, _, hs, hl, hS⟩⟩
theorem break_c (hS : Sat w0 w (queueC k g Q :: F)) : Calls Try.prog 27 #[.pointer (some ⟨g, 0, none⟩)] w fun e w' => e = .returned (.tuple #[]) ∧ Sat w0 w' (queueC k g { Q with under := false } :: F) := by
  obtain ⟨o, d, p, e, hs, hl, hS⟩ := queue_open hS
  refine enter Try.func27 rfl Try.ntmps27 (Nat.le_of_ble_eq_true rfl) fun a hF => ?_
  -- region 0
  refine wp_region_lit ?_
  refine s_pu hF rfl rfl rfl (pu_move (hF.ev rfl)) ?_; clear hF; intro a hF
  refine s_pu hF rfl rfl rfl ((by first | exact pu_nil (hF.ev rfl) | exact pu_nilf (hF.ev rfl))) ?_; clear hF; intro a hF
  refine s_pu hF rfl rfl rfl (pu_field fd66_5 (hF.ev rfl)) ?_; clear hF; intro a hF
  (first | (refine s_rstore 0 hF rfl (hF.ev rfl) (hF.ev rfl) hS rfl sz4 rfl (by omega) ?_) | (refine s_rstore 1 hF rfl (hF.ev rfl) (hF.ev rfl) hS rfl sz4 rfl (by omega) ?_) | (refine s_rstore 2 hF rfl (hF.ev rfl) (hF.ev rfl) hS rfl sz4 rfl (by omega) ?_) | (refine s_rstore 3 hF rfl (hF.ev rfl) (hF.ev rfl) hS rfl sz4 rfl (by omega) ?_) | (refine s_rstore 4 hF rfl (hF.ev rfl) (hF.ev rfl) hS rfl sz4 rfl (by omega) ?_) | (refine s_rstore 5 hF rfl (hF.ev rfl) (hF.ev rfl) hS rfl sz4 rfl (by omega) ?_) | (refine s_store (vs := [_]) (cs' := #[_, _, _, _, _, _, _, _, _]) 0 hF rfl (hF.ev rfl) (hF.ev rfl) hS rfl rfl sz4 (by first | rfl | (simp only [List.all_cons, List.all_nil, Value.oneCell', Bool.and_true, Bool.true_and]; assumption) | (simp [Value.oneCell', *]; done)) (by first | exact Nat.le_of_ble_eq_true rfl | (simp [Value.cells]; omega)) rfl ?_) | (refine s_store (vs := [_]) (cs' := #[_, _, _, _, _, _, _, _, _]) 1 hF rfl (hF.ev rfl) (hF.ev rfl) hS rfl rfl sz4 (by first | rfl | (simp only [List.all_cons, List.all_nil, Value.oneCell', Bool.and_true, Bool.true_and]; assumption) | (simp [Value.oneCell', *]; done)) (by first | exact Nat.le_of_ble_eq_true rfl | (simp [Value.cells]; omega)) rfl ?_) | (refine s_store (vs := [_]) (cs' := #[_, _, _, _, _, _, _, _, _]) 2 hF rfl (hF.ev rfl) (hF.ev rfl) hS rfl rfl sz4 (by first | rfl | (simp only [List.all_cons, List.all_nil, Value.oneCell', Bool.and_true, Bool.true_and]; assumption) | (simp [Value.oneCell', *]; done)) (by first | exact Nat.le_of_ble_eq_true rfl | (simp [Value.cells]; omega)) rfl ?_) | (refine s_store (vs := [_]) (cs' := #[_, _, _, _, _, _, _, _, _]) 3 hF rfl (hF.ev rfl) (hF.ev rfl) hS rfl rfl sz4 (by first | rfl | (simp only [List.all_cons, List.all_nil, Value.oneCell', Bool.and_true, Bool.true_and]; assumption) | (simp [Value.oneCell', *]; done)) (by first | exact Nat.le_of_ble_eq_true rfl | (simp [Value.cells]; omega)) rfl ?_) | (refine s_store (vs := [_]) (cs' := #[_, _, _, _, _, _, _, _, _]) 4 hF rfl (hF.ev rfl) (hF.ev rfl) hS rfl rfl sz4 (by first | rfl | (simp only [List.all_cons, List.all_nil, Value.oneCell', Bool.and_true, Bool.true_and]; assumption) | (simp [Value.oneCell', *]; done)) (by first | exact Nat.le_of_ble_eq_true rfl | (simp [Value.cells]; omega)) rfl ?_) | (refine s_store (vs := [_]) (cs' := #[_, _, _, _, _, _, _, _, _]) 5 hF rfl (hF.ev rfl) (hF.ev rfl) hS rfl rfl sz4 (by first | rfl | (simp only [List.all_cons, List.all_nil, Value.oneCell', Bool.and_true, Bool.true_and]; assumption) | (simp [Value.oneCell', *]; done)) (by first | exact Nat.le_of_ble_eq_true rfl | (simp [Value.cells]; omega)) rfl ?_) | (refine s_store (vs := [_]) (cs' := _) 0 hF rfl (hF.ev rfl) (hF.ev rfl) hS rfl rfl sz4 (by first | rfl | (simp only [List.all_cons, List.all_nil, Value.oneCell', Bool.and_true, Bool.true_and]; assumption) | (simp [Value.oneCell', *]; done)) (by first | exact Nat.le_of_ble_eq_true rfl | (simp [Value.cells]; omega)) rfl ?_) | (refine s_store (vs := [_]) (cs' := _) 1 hF rfl (hF.ev rfl) (hF.ev rfl) hS rfl rfl sz4 (by first | rfl | (simp only [List.all_cons, List.all_nil, Value.oneCell', Bool.and_true, Bool.true_and]; assumption) | (simp [Value.oneCell', *]; done)) (by first | exact Nat.le_of_ble_eq_true rfl | (simp [Value.cells]; omega)) rfl ?_) | (refine s_store (vs := [_]) (cs' := _) 2 hF rfl (hF.ev rfl) (hF.ev rfl) hS rfl rfl sz4 (by first | rfl | (simp only [List.all_cons, List.all_nil, Value.oneCell', Bool.and_true, Bool.true_and]; assumption) | (simp [Value.oneCell', *]; done)) (by first | exact Nat.le_of_ble_eq_true rfl | (simp [Value.cells]; omega)) rfl ?_) | (refine s_store (vs := [_]) (cs' := _) 3 hF rfl (hF.ev rfl) (hF.ev rfl) hS rfl rfl sz4 (by first | rfl | (simp only [List.all_cons, List.all_nil, Value.oneCell', Bool.and_true, Bool.true_and]; assumption) | (simp [Value.oneCell', *]; done)) (by first | exact Nat.le_of_ble_eq_true rfl | (simp [Value.cells]; omega)) rfl ?_) | (refine s_store (vs := [_]) (cs' := _) 4 hF rfl (hF.ev rfl) (hF.ev rfl) hS rfl rfl sz4 (by first | rfl | (simp only [List.all_cons, List.all_nil, Value.oneCell', Bool.and_true, Bool.true_and]; assumption) | (simp [Value.oneCell', *]; done)) (by first | exact Nat.le_of_ble_eq_true rfl | (simp [Value.cells]; omega)) rfl ?_) | (refine s_store (vs := [_]) (cs' := _) 5 hF rfl (hF.ev rfl) (hF.ev rfl) hS rfl rfl sz4 (by first | rfl | (simp only [List.all_cons, List.all_nil, Value.oneCell', Bool.and_true, Bool.true_and]; assumption) | (simp [Value.oneCell', *]; done)) (by first | exact Nat.le_of_ble_eq_true rfl | (simp [Value.cells]; omega)) rfl ?_))
  clear hS; intro w hS; (try simp only [upd, del] at hS)
  refine s_done ?_
  refine fin0 Try.results27 hF ?_
  exact ⟨rfl, queue_open0.2 ⟨_, _, hs, hl, hS⟩⟩
theorem tick_c (hS : Sat w0 w (queueC k g Q :: F)) (h0 : 0 ≤ Q.ticks) (h1 : Q.ticks ≤ 100000) : Calls Try.prog 13 #[.pointer (some ⟨g, 0, none⟩)] w fun e w' => e = .returned (.tuple #[]) ∧ Sat w0 w' (queueC k g { Q with ticks := min (Q.ticks + 1) Q.retry } :: F) := by
  obtain ⟨o, d, p, e, hs, hl, hS⟩ := queue_open hS
  refine enter Try.func13 rfl Try.ntmps13 (Nat.le_of_ble_eq_true rfl) fun a hF => ?_
  -- region 0
  refine d_start (S := (fun w => Sat w0 w _)) (ds := [13]) (ord := [(0, .pu), (1, .pu), (2, .pu), (3, .pu), (4, .tk), (5, .pu), (6, .pu), (7, .pu), (8, .pu), (9, .tk), (10, .pu), (11, .pu), (12, .pu), (13, .ls)]) mixed ⟨by kernel_rfl, fun _ d _ _ _ h => by cases d <;> exact h⟩ hS.drew fun hD => ?_
  replace hS := hS.drew; generalize w.drew = w at hS ⊢
  refine d_pu hD hF rfl rfl rfl rfl rfl (pu_move (hF.ev rfl)) ?_; clear hF; intro a hF
  refine d_pu hD hF rfl rfl rfl rfl rfl (pu_move (hF.ev rfl)) ?_; clear hF; intro a hF
  refine d_pu hD hF rfl rfl rfl rfl rfl ((by first | exact pu_nil (hF.ev rfl) | exact pu_nilf (hF.ev rfl))) ?_; clear hF; intro a hF
  refine d_pu hD hF rfl rfl rfl rfl rfl (pu_field fd66_6 (hF.ev rfl)) ?_; clear hF; intro a hF
  refine d_rd hD hF rfl rfl rfl rfl rfl hS (fun w hS => (by first | exact rd_load pl3 (hF.ev rfl) (by assumption) | exact rd_load pl3 (hF.ev rfl) (hS.cellL (i := 0) rfl rfl) | exact rd_load pl3 (hF.ev rfl) (hS.cellL (i := 1) rfl rfl) | exact rd_load pl3 (hF.ev rfl) (hS.cellL (i := 2) rfl rfl) | exact rd_load pl3 (hF.ev rfl) (hS.cellL (i := 3) rfl rfl) | exact rd_load pl3 (hF.ev rfl) (hS.cellL (i := 4) rfl rfl) | exact rd_load pl3 (hF.ev rfl) (hS.cellL (i := 5) rfl rfl) | exact rd_load pl3 (hF.ev rfl) (hS.cell (i := 0) rfl (by assumption)) | exact rd_load pl3 (hF.ev rfl) (hS.cell (i := 1) rfl (by assumption)) | exact rd_load pl3 (hF.ev rfl) (hS.cell (i := 2) rfl (by assumption)) | exact rd_load pl3 (hF.ev rfl) (hS.cell (i := 3) rfl (by assumption)) | exact rd_load pl3 (hF.ev rfl) (hS.cell (i := 4) rfl (by assumption)) | exact rd_load pl3 (hF.ev rfl) (hS.cell (i := 5) rfl (by assumption)) | exact rd_load pl3 (hF.ev rfl) (row_at (i := 0) hS rfl (by first | assumption | rfl)) | exact rd_load pl3 (hF.ev rfl) (row_at0 (i := 0) hS rfl (by first | assumption | rfl)) | exact rd_load pl3 (hF.ev rfl) (row_at (i := 1) hS rfl (by first | assumption | rfl)) | exact rd_load pl3 (hF.ev rfl) (row_at0 (i := 1) hS rfl (by first | assumption | rfl)) | exact rd_load pl3 (hF.ev rfl) (row_at (i := 2) hS rfl (by first | assumption | rfl)) | exact rd_load pl3 (hF.ev rfl) (row_at0 (i := 2) hS rfl (by first | assumption | rfl)) | exact rd_load pl3 (hF.ev rfl) (row_at (i := 3) hS rfl (by first | assumption | rfl)) | exact rd_load pl3 (hF.ev rfl) (row_at0 (i := 3) hS rfl (by first | assumption | rfl)) | exact rd_load pl3 (hF.ev rfl) (row_at (i := 4) hS rfl (by first | assumption | rfl)) | exact rd_load pl3 (hF.ev rfl) (row_at0 (i := 4) hS rfl (by first | assumption | rfl)) | exact rd_load pl3 (hF.ev rfl) (row_at (i := 5) hS rfl (by first | assumption | rfl)) | exact rd_load pl3 (hF.ev rfl) (row_at0 (i := 5) hS rfl (by first | assumption | rfl)))) ?_; clear hF; intro a hF
  refine d_pu hD hF rfl rfl rfl rfl rfl ((by first | exact pu_add64 (hF.ev rfl) (hF.ev rfl) (by omega) | exact pu_add (hF.ev rfl) (hF.ev rfl))) ?_; clear hF; intro a hF
  refine d_pu hD hF rfl rfl rfl rfl rfl (pu_move (hF.ev rfl)) ?_; clear hF; intro a hF
  refine d_pu hD hF rfl rfl rfl rfl rfl ((by first | exact pu_nil (hF.ev rfl) | exact pu_nilf (hF.ev rfl))) ?_; clear hF; intro a hF
  refine d_pu hD hF rfl rfl rfl rfl rfl (pu_field fd66_1 (hF.ev rfl)) ?_; clear hF; intro a hF
  refine d_rd hD hF rfl rfl rfl rfl rfl hS (fun w hS => (by first | exact rd_load pl3 (hF.ev rfl) (by assumption) | exact rd_load pl3 (hF.ev rfl) (hS.cellL (i := 0) rfl rfl) | exact rd_load pl3 (hF.ev rfl) (hS.cellL (i := 1) rfl rfl) | exact rd_load pl3 (hF.ev rfl) (hS.cellL (i := 2) rfl rfl) | exact rd_load pl3 (hF.ev rfl) (hS.cellL (i := 3) rfl rfl) | exact rd_load pl3 (hF.ev rfl) (hS.cellL (i := 4) rfl rfl) | exact rd_load pl3 (hF.ev rfl) (hS.cellL (i := 5) rfl rfl) | exact rd_load pl3 (hF.ev rfl) (hS.cell (i := 0) rfl (by assumption)) | exact rd_load pl3 (hF.ev rfl) (hS.cell (i := 1) rfl (by assumption)) | exact rd_load pl3 (hF.ev rfl) (hS.cell (i := 2) rfl (by assumption)) | exact rd_load pl3 (hF.ev rfl) (hS.cell (i := 3) rfl (by assumption)) | exact rd_load pl3 (hF.ev rfl) (hS.cell (i := 4) rfl (by assumption)) | exact rd_load pl3 (hF.ev rfl) (hS.cell (i := 5) rfl (by assumption)) | exact rd_load pl3 (hF.ev rfl) (row_at (i := 0) hS rfl (by first | assumption | rfl)) | exact rd_load pl3 (hF.ev rfl) (row_at0 (i := 0) hS rfl (by first | assumption | rfl)) | exact rd_load pl3 (hF.ev rfl) (row_at (i := 1) hS rfl (by first | assumption | rfl)) | exact rd_load pl3 (hF.ev rfl) (row_at0 (i := 1) hS rfl (by first | assumption | rfl)) | exact rd_load pl3 (hF.ev rfl) (row_at (i := 2) hS rfl (by first | assumption | rfl)) | exact rd_load pl3 (hF.ev rfl) (row_at0 (i := 2) hS rfl (by first | assumption | rfl)) | exact rd_load pl3 (hF.ev rfl) (row_at (i := 3) hS rfl (by first | assumption | rfl)) | exact rd_load pl3 (hF.ev rfl) (row_at0 (i := 3) hS rfl (by first | assumption | rfl)) | exact rd_load pl3 (hF.ev rfl) (row_at (i := 4) hS rfl (by first | assumption | rfl)) | exact rd_load pl3 (hF.ev rfl) (row_at0 (i := 4) hS rfl (by first | assumption | rfl)) | exact rd_load pl3 (hF.ev rfl) (row_at (i := 5) hS rfl (by first | assumption | rfl)) | exact rd_load pl3 (hF.ev rfl) (row_at0 (i := 5) hS rfl (by first | assumption | rfl)))) ?_; clear hF; intro a hF
  refine d_pu hD hF rfl rfl rfl rfl rfl (pu_min (hF.ev rfl) (hF.ev rfl)) ?_; clear hF; intro a hF
  refine d_pu hD hF rfl rfl rfl rfl rfl ((by first | exact pu_nil (hF.ev rfl) | exact pu_nilf (hF.ev rfl))) ?_; clear hF; intro a hF
  refine d_pu hD hF rfl rfl rfl rfl rfl (pu_field fd66_6 (hF.ev rfl)) ?_; clear hF; intro a hF
  (first | (refine l_store (vs := [_]) (cs' := #[_, _, _, _, _, _, _, _, _]) 0 hD hF rfl rfl rfl (hF.ev rfl) (hF.ev rfl) hS rfl rfl sz3 (by first | rfl | (simp only [List.all_cons, List.all_nil, Value.oneCell', Bool.and_true, Bool.true_and]; assumption) | (simp [Value.oneCell', *]; done)) (by first | exact Nat.le_of_ble_eq_true rfl | (simp [Value.cells]; omega)) rfl ?_) | (refine l_store (vs := [_]) (cs' := #[_, _, _, _, _, _, _, _, _]) 1 hD hF rfl rfl rfl (hF.ev rfl) (hF.ev rfl) hS rfl rfl sz3 (by first | rfl | (simp only [List.all_cons, List.all_nil, Value.oneCell', Bool.and_true, Bool.true_and]; assumption) | (simp [Value.oneCell', *]; done)) (by first | exact Nat.le_of_ble_eq_true rfl | (simp [Value.cells]; omega)) rfl ?_) | (refine l_store (vs := [_]) (cs' := #[_, _, _, _, _, _, _, _, _]) 2 hD hF rfl rfl rfl (hF.ev rfl) (hF.ev rfl) hS rfl rfl sz3 (by first | rfl | (simp only [List.all_cons, List.all_nil, Value.oneCell', Bool.and_true, Bool.true_and]; assumption) | (simp [Value.oneCell', *]; done)) (by first | exact Nat.le_of_ble_eq_true rfl | (simp [Value.cells]; omega)) rfl ?_) | (refine l_store (vs := [_]) (cs' := #[_, _, _, _, _, _, _, _, _]) 3 hD hF rfl rfl rfl (hF.ev rfl) (hF.ev rfl) hS rfl rfl sz3 (by first | rfl | (simp only [List.all_cons, List.all_nil, Value.oneCell', Bool.and_true, Bool.true_and]; assumption) | (simp [Value.oneCell', *]; done)) (by first | exact Nat.le_of_ble_eq_true rfl | (simp [Value.cells]; omega)) rfl ?_) | (refine l_store (vs := [_]) (cs' := #[_, _, _, _, _, _, _, _, _]) 4 hD hF rfl rfl rfl (hF.ev rfl) (hF.ev rfl) hS rfl rfl sz3 (by first | rfl | (simp only [List.all_cons, List.all_nil, Value.oneCell', Bool.and_true, Bool.true_and]; assumption) | (simp [Value.oneCell', *]; done)) (by first | exact Nat.le_of_ble_eq_true rfl | (simp [Value.cells]; omega)) rfl ?_) | (refine l_store (vs := [_]) (cs' := #[_, _, _, _, _, _, _, _, _]) 5 hD hF rfl rfl rfl (hF.ev rfl) (hF.ev rfl) hS rfl rfl sz3 (by first | rfl | (simp only [List.all_cons, List.all_nil, Value.oneCell', Bool.and_true, Bool.true_and]; assumption) | (simp [Value.oneCell', *]; done)) (by first | exact Nat.le_of_ble_eq_true rfl | (simp [Value.cells]; omega)) rfl ?_) | (refine l_store (vs := [_]) (cs' := _) 0 hD hF rfl rfl rfl (hF.ev rfl) (hF.ev rfl) hS rfl rfl sz3 (by first | rfl | (simp only [List.all_cons, List.all_nil, Value.oneCell', Bool.and_true, Bool.true_and]; assumption) | (simp [Value.oneCell', *]; done)) (by first | exact Nat.le_of_ble_eq_true rfl | (simp [Value.cells]; omega)) rfl ?_) | (refine l_store (vs := [_]) (cs' := _) 1 hD hF rfl rfl rfl (hF.ev rfl) (hF.ev rfl) hS rfl rfl sz3 (by first | rfl | (simp only [List.all_cons, List.all_nil, Value.oneCell', Bool.and_true, Bool.true_and]; assumption) | (simp [Value.oneCell', *]; done)) (by first | exact Nat.le_of_ble_eq_true rfl | (simp [Value.cells]; omega)) rfl ?_) | (refine l_store (vs := [_]) (cs' := _) 2 hD hF rfl rfl rfl (hF.ev rfl) (hF.ev rfl) hS rfl rfl sz3 (by first | rfl | (simp only [List.all_cons, List.all_nil, Value.oneCell', Bool.and_true, Bool.true_and]; assumption) | (simp [Value.oneCell', *]; done)) (by first | exact Nat.le_of_ble_eq_true rfl | (simp [Value.cells]; omega)) rfl ?_) | (refine l_store (vs := [_]) (cs' := _) 3 hD hF rfl rfl rfl (hF.ev rfl) (hF.ev rfl) hS rfl rfl sz3 (by first | rfl | (simp only [List.all_cons, List.all_nil, Value.oneCell', Bool.and_true, Bool.true_and]; assumption) | (simp [Value.oneCell', *]; done)) (by first | exact Nat.le_of_ble_eq_true rfl | (simp [Value.cells]; omega)) rfl ?_) | (refine l_store (vs := [_]) (cs' := _) 4 hD hF rfl rfl rfl (hF.ev rfl) (hF.ev rfl) hS rfl rfl sz3 (by first | rfl | (simp only [List.all_cons, List.all_nil, Value.oneCell', Bool.and_true, Bool.true_and]; assumption) | (simp [Value.oneCell', *]; done)) (by first | exact Nat.le_of_ble_eq_true rfl | (simp [Value.cells]; omega)) rfl ?_) | (refine l_store (vs := [_]) (cs' := _) 5 hD hF rfl rfl rfl (hF.ev rfl) (hF.ev rfl) hS rfl rfl sz3 (by first | rfl | (simp only [List.all_cons, List.all_nil, Value.oneCell', Bool.and_true, Bool.true_and]; assumption) | (simp [Value.oneCell', *]; done)) (by first | exact Nat.le_of_ble_eq_true rfl | (simp [Value.cells]; omega)) rfl ?_))
  clear hS; intro w hS; (try simp only [upd, del] at hS)
  refine d_done hD rfl ?_; clear hD
  refine fin0 Try.results13 hF ?_
  exact ⟨rfl, queue_open0.2 ⟨_, _, hs, hl, hS⟩⟩
theorem gone_c (hS : Sat w0 w (queueC k g Q :: F)) : Calls Try.prog 14 #[.pointer (some ⟨g, 0, none⟩)] w fun e w' => ∃ p q, e = .returned (.slice p Q.gone.length q) ∧ Sat w0 w' (rowC 3 1 (.slice p Q.gone.length q) Q.gone.length (ints Q.gone) :: queueC k g { Q with gone := [] } :: F) := by
  obtain ⟨o, d, p, e, hs, hl, hS⟩ := queue_open hS
  refine enter Try.func14 rfl Try.ntmps14 (Nat.le_of_ble_eq_true rfl) fun a hF => ?_
  refine wp_seq_k fun K0 hK0 => ?_
  -- region 0
  refine wp_region_lit ?_
  refine s_pu hF rfl rfl rfl (pu_assign (hF.ev rfl)) ?_; clear hF; intro a hF
  refine s_done ?_
  refine hK0 _ _ ?_; clear hK0
  refine wp_seq_k fun K1 hK1 => ?_
  -- region 1
  refine wp_region_lit ?_
  refine s_pu hF rfl rfl rfl (pu_move (hF.ev rfl)) ?_; clear hF; intro a hF
  refine s_pu hF rfl rfl rfl ((by first | exact pu_nil (hF.ev rfl) | exact pu_nilf (hF.ev rfl))) ?_; clear hF; intro a hF
  refine s_pu hF rfl rfl rfl (pu_field fd66_7 (hF.ev rfl)) ?_; clear hF; intro a hF
  refine s_rd hF rfl rfl rfl (by first | exact rd_load pl38 (hF.ev rfl) (by assumption) | exact rd_load pl38 (hF.ev rfl) (hS.cellL (i := 0) rfl rfl) | exact rd_load pl38 (hF.ev rfl) (hS.cellL (i := 1) rfl rfl) | exact rd_load pl38 (hF.ev rfl) (hS.cellL (i := 2) rfl rfl) | exact rd_load pl38 (hF.ev rfl) (hS.cellL (i := 3) rfl rfl) | exact rd_load pl38 (hF.ev rfl) (hS.cellL (i := 4) rfl rfl) | exact rd_load pl38 (hF.ev rfl) (hS.cellL (i := 5) rfl rfl) | exact rd_load pl38 (hF.ev rfl) (hS.cell (i := 0) rfl (by assumption)) | exact rd_load pl38 (hF.ev rfl) (hS.cell (i := 1) rfl (by assumption)) | exact rd_load pl38 (hF.ev rfl) (hS.cell (i := 2) rfl (by assumption)) | exact rd_load pl38 (hF.ev rfl) (hS.cell (i := 3) rfl (by assumption)) | exact rd_load pl38 (hF.ev rfl) (hS.cell (i := 4) rfl (by assumption)) | exact rd_load pl38 (hF.ev rfl) (hS.cell (i := 5) rfl (by assumption)) | exact rd_load pl38 (hF.ev rfl) (row_at (i := 0) hS rfl (by first | assumption | rfl)) | exact rd_load pl38 (hF.ev rfl) (row_at0 (i := 0) hS rfl (by first | assumption | rfl)) | exact rd_load pl38 (hF.ev rfl) (row_at (i := 1) hS rfl (by first | assumption | rfl)) | exact rd_load pl38 (hF.ev rfl) (row_at0 (i := 1) hS rfl (by first | assumption | rfl)) | exact rd_load pl38 (hF.ev rfl) (row_at (i := 2) hS rfl (by first | assumption | rfl)) | exact rd_load pl38 (hF.ev rfl) (row_at0 (i := 2) hS rfl (by first | assumption | rfl)) | exact rd_load pl38 (hF.ev rfl) (row_at (i := 3) hS rfl (by first | assumption | rfl)) | exact rd_load pl38 (hF.ev rfl) (row_at0 (i := 3) hS rfl (by first | assumption | rfl)) | exact rd_load pl38 (hF.ev rfl) (row_at (i := 4) hS rfl (by first | assumption | rfl)) | exact rd_load pl38 (hF.ev rfl) (row_at0 (i := 4) hS rfl (by first | assumption | rfl)) | exact rd_load pl38 (hF.ev rfl) (row_at (i := 5) hS rfl (by first | assumption | rfl)) | exact rd_load pl38 (hF.ev rfl) (row_at0 (i := 5) hS rfl (by first | assumption | rfl))) ?_; clear hF; intro a hF
  refine s_pu hF rfl rfl rfl (pu_assign (hF.ev rfl)) ?_; clear hF; intro a hF
  refine s_done ?_
  refine hK1 _ _ ?_; clear hK1
  refine wp_seq_k fun K2 hK2 => ?_
  -- region 2
  refine wp_region_lit ?_
  refine s_pu hF rfl rfl rfl (pu_move (hF.ev rfl)) ?_; clear hF; intro a hF
  refine s_pu hF rfl rfl rfl ((by first | exact pu_nil (hF.ev rfl) | exact pu_nilf (hF.ev rfl))) ?_; clear hF; intro a hF
  refine s_pu hF rfl rfl rfl (pu_field fd66_7 (hF.ev rfl)) ?_; clear hF; intro a hF
  (first | (refine s_rstore 0 hF rfl (hF.ev rfl) (hF.ev rfl) hS rfl sz38 rfl (by omega) ?_) | (refine s_rstore 1 hF rfl (hF.ev rfl) (hF.ev rfl) hS rfl sz38 rfl (by omega) ?_) | (refine s_rstore 2 hF rfl (hF.ev rfl) (hF.ev rfl) hS rfl sz38 rfl (by omega) ?_) | (refine s_rstore 3 hF rfl (hF.ev rfl) (hF.ev rfl) hS rfl sz38 rfl (by omega) ?_) | (refine s_rstore 4 hF rfl (hF.ev rfl) (hF.ev rfl) hS rfl sz38 rfl (by omega) ?_) | (refine s_rstore 5 hF rfl (hF.ev rfl) (hF.ev rfl) hS rfl sz38 rfl (by omega) ?_) | (refine s_store (vs := [_]) (cs' := #[_, _, _, _, _, _, _, _, _]) 0 hF rfl (hF.ev rfl) (hF.ev rfl) hS rfl rfl sz38 (by first | rfl | (simp only [List.all_cons, List.all_nil, Value.oneCell', Bool.and_true, Bool.true_and]; assumption) | (simp [Value.oneCell', *]; done)) (by first | exact Nat.le_of_ble_eq_true rfl | (simp [Value.cells]; omega)) rfl ?_) | (refine s_store (vs := [_]) (cs' := #[_, _, _, _, _, _, _, _, _]) 1 hF rfl (hF.ev rfl) (hF.ev rfl) hS rfl rfl sz38 (by first | rfl | (simp only [List.all_cons, List.all_nil, Value.oneCell', Bool.and_true, Bool.true_and]; assumption) | (simp [Value.oneCell', *]; done)) (by first | exact Nat.le_of_ble_eq_true rfl | (simp [Value.cells]; omega)) rfl ?_) | (refine s_store (vs := [_]) (cs' := #[_, _, _, _, _, _, _, _, _]) 2 hF rfl (hF.ev rfl) (hF.ev rfl) hS rfl rfl sz38 (by first | rfl | (simp only [List.all_cons, List.all_nil, Value.oneCell', Bool.and_true, Bool.true_and]; assumption) | (simp [Value.oneCell', *]; done)) (by first | exact Nat.le_of_ble_eq_true rfl | (simp [Value.cells]; omega)) rfl ?_) | (refine s_store (vs := [_]) (cs' := #[_, _, _, _, _, _, _, _, _]) 3 hF rfl (hF.ev rfl) (hF.ev rfl) hS rfl rfl sz38 (by first | rfl | (simp only [List.all_cons, List.all_nil, Value.oneCell', Bool.and_true, Bool.true_and]; assumption) | (simp [Value.oneCell', *]; done)) (by first | exact Nat.le_of_ble_eq_true rfl | (simp [Value.cells]; omega)) rfl ?_) | (refine s_store (vs := [_]) (cs' := #[_, _, _, _, _, _, _, _, _]) 4 hF rfl (hF.ev rfl) (hF.ev rfl) hS rfl rfl sz38 (by first | rfl | (simp only [List.all_cons, List.all_nil, Value.oneCell', Bool.and_true, Bool.true_and]; assumption) | (simp [Value.oneCell', *]; done)) (by first | exact Nat.le_of_ble_eq_true rfl | (simp [Value.cells]; omega)) rfl ?_) | (refine s_store (vs := [_]) (cs' := #[_, _, _, _, _, _, _, _, _]) 5 hF rfl (hF.ev rfl) (hF.ev rfl) hS rfl rfl sz38 (by first | rfl | (simp only [List.all_cons, List.all_nil, Value.oneCell', Bool.and_true, Bool.true_and]; assumption) | (simp [Value.oneCell', *]; done)) (by first | exact Nat.le_of_ble_eq_true rfl | (simp [Value.cells]; omega)) rfl ?_) | (refine s_store (vs := [_]) (cs' := _) 0 hF rfl (hF.ev rfl) (hF.ev rfl) hS rfl rfl sz38 (by first | rfl | (simp only [List.all_cons, List.all_nil, Value.oneCell', Bool.and_true, Bool.true_and]; assumption) | (simp [Value.oneCell', *]; done)) (by first | exact Nat.le_of_ble_eq_true rfl | (simp [Value.cells]; omega)) rfl ?_) | (refine s_store (vs := [_]) (cs' := _) 1 hF rfl (hF.ev rfl) (hF.ev rfl) hS rfl rfl sz38 (by first | rfl | (simp only [List.all_cons, List.all_nil, Value.oneCell', Bool.and_true, Bool.true_and]; assumption) | (simp [Value.oneCell', *]; done)) (by first | exact Nat.le_of_ble_eq_true rfl | (simp [Value.cells]; omega)) rfl ?_) | (refine s_store (vs := [_]) (cs' := _) 2 hF rfl (hF.ev rfl) (hF.ev rfl) hS rfl rfl sz38 (by first | rfl | (simp only [List.all_cons, List.all_nil, Value.oneCell', Bool.and_true, Bool.true_and]; assumption) | (simp [Value.oneCell', *]; done)) (by first | exact Nat.le_of_ble_eq_true rfl | (simp [Value.cells]; omega)) rfl ?_) | (refine s_store (vs := [_]) (cs' := _) 3 hF rfl (hF.ev rfl) (hF.ev rfl) hS rfl rfl sz38 (by first | rfl | (simp only [List.all_cons, List.all_nil, Value.oneCell', Bool.and_true, Bool.true_and]; assumption) | (simp [Value.oneCell', *]; done)) (by first | exact Nat.le_of_ble_eq_true rfl | (simp [Value.cells]; omega)) rfl ?_) | (refine s_store (vs := [_]) (cs' := _) 4 hF rfl (hF.ev rfl) (hF.ev rfl) hS rfl rfl sz38 (by first | rfl | (simp only [List.all_cons, List.all_nil, Value.oneCell', Bool.and_true, Bool.true_and]; assumption) | (simp [Value.oneCell', *]; done)) (by first | exact Nat.le_of_ble_eq_true rfl | (simp [Value.cells]; omega)) rfl ?_) | (refine s_store (vs := [_]) (cs' := _) 5 hF rfl (hF.ev rfl) (hF.ev rfl) hS rfl rfl sz38 (by first | rfl | (simp only [List.all_cons, List.all_nil, Value.oneCell', Bool.and_true, Bool.true_and]; assumption) | (simp [Value.oneCell', *]; done)) (by first | exact Nat.le_of_ble_eq_true rfl | (simp [Value.cells]; omega)) rfl ?_))
  clear hS; intro w hS; (try simp only [upd, del] at hS)
  refine s_done ?_
  refine hK2 _ _ ?_; clear hK2
  refine wp_seq_k fun K3 hK3 => ?_
  -- region 3
  refine wp_region_lit ?_
  refine s_pu hF rfl rfl rfl (pu_move (hF.ev rfl)) ?_; clear hF; intro a hF
  refine s_pu hF rfl rfl rfl (pu_assign (hF.ev rfl)) ?_; clear hF; intro a hF
  refine s_done ?_
  refine hK3 _ _ ?_; clear hK3
  refine wp_ret ?_
  refine fin1 Try.results14 hF rfl ?_
  refine ⟨p, e, rfl, (Sat.perm (C := queueC k g { Q with gone := [] } :: rowC 3 1 (.slice p Q.gone.length e) Q.gone.length (ints Q.gone) :: F) ?_ (List.Perm.swap _ _ _))⟩
  refine queue_open0.2 ⟨.slice o Q.l.length d, .slice none 0 0, hs, hl, ?_⟩
  have := (row_nil (E := 3) (sz := 1) hS).sel [1, 1]
  exact (this.front 3 rfl).perm (List.perm_middle (l₁ := _ :: _ :: _ :: advsC k hs Q.l)).symm
theorem count_c {d : Int} (hS : Sat w0 w F) (h0 : 0 ≤ d) (h1 : d ≤ 10000) : Calls Try.prog 29 #[.int .i64 d, .int .i64 1, .int .i64 10000] w fun e w' => e = .returned (.int .i64 (min (d + 1) 10000)) ∧ Sat w0 w' F := by
  refine enter Try.func29 rfl Try.ntmps29 (Nat.le_of_ble_eq_true rfl) fun a hF => ?_
  refine wp_seq_k fun K0 hK0 => ?_
  -- region 0
  refine wp_region_lit ?_
  refine s_pu hF rfl rfl rfl (pu_assign (hF.ev rfl)) ?_; clear hF; intro a hF
  refine s_done ?_
  refine hK0 _ _ ?_; clear hK0
  refine wp_seq_k fun K1 hK1 => ?_
  -- region 1
  refine wp_region_lit ?_
  refine s_pu hF rfl rfl rfl (pu_move (hF.ev rfl)) ?_; clear hF; intro a hF
  refine s_pu hF rfl rfl rfl (pu_max (hF.ev rfl) (hF.ev rfl)) ?_; clear hF; intro a hF
  refine s_pu hF rfl rfl rfl (pu_move (hF.ev rfl)) ?_; clear hF; intro a hF
  refine s_pu hF rfl rfl rfl (pu_max (hF.ev rfl) (hF.ev rfl)) ?_; clear hF; intro a hF
  refine s_pu hF rfl rfl rfl (pu_move (hF.ev rfl)) ?_; clear hF; intro a hF
  refine s_pu hF rfl rfl rfl (pu_max (hF.ev rfl) (hF.ev rfl)) ?_; clear hF; intro a hF
  refine s_pu hF rfl rfl rfl (pu_assign (hF.ev rfl)) ?_; clear hF; intro a hF
  refine s_pu hF rfl rfl rfl (pu_assign (hF.ev rfl)) ?_; clear hF; intro a hF
  refine s_pu hF rfl rfl rfl (pu_assign (hF.ev rfl)) ?_; clear hF; intro a hF
  refine s_done ?_
  refine hK1 _ _ ?_; clear hK1
  refine wp_seq_k fun K2 hK2 => ?_
  refine wp_seq_k fun K3 hK3 => ?_
  -- region 2
  refine wp_region_lit ?_
  refine s_pu hF rfl rfl rfl (pu_move (hF.ev rfl)) ?_; clear hF; intro a hF
  refine s_pu hF rfl rfl rfl (pu_move (hF.ev rfl)) ?_; clear hF; intro a hF
  refine s_pu hF rfl rfl rfl (pu_gtr (hF.ev rfl) (hF.ev rfl)) ?_; clear hF; intro a hF
  refine s_pu hF rfl rfl rfl (pu_move (hF.ev rfl)) ?_; clear hF; intro a hF
  refine fr_split hF (t := 16) rfl ?_ ?_
  · clear hF; intro hg16 hF   -- slot 16 true
    try simp only [decide_eq_true_eq, decide_eq_false_iff_not, Bool.not_eq_true', Bool.not_eq_false', Int.not_lt, Int.not_le, ne_eq, Decidable.not_not, Bool.or_eq_true, Bool.or_eq_false_iff, Bool.and_eq_true, Bool.and_eq_false_imp] at hg16
    refine s_no hF rfl rfl rfl ?_; clear hF; intro a hF
    refine s_no hF rfl rfl rfl ?_; clear hF; intro a hF
    refine s_no hF rfl rfl rfl ?_; clear hF; intro a hF
    refine s_no hF rfl rfl rfl ?_; clear hF; intro a hF
    refine s_no hF rfl rfl rfl ?_; clear hF; intro a hF
    refine s_pu hF rfl rfl rfl ((by first | exact pu_pick_t (hF.ev rfl) (hF.ev rfl) | exact pu_pick_f (hF.ev rfl) (hF.ev rfl) | exact pu_pick (hF.ev rfl) (hF.ev rfl) (hF.ev rfl))) ?_; clear hF; intro a hF
    refine s_done ?_
    refine hK3 _ _ ?_; clear hK3
    refine wp_cond_true (hF.ev rfl) ?_
    refine wp_seq_k fun K4 hK4 => ?_
    -- region 3
    refine wp_region_lit ?_
    refine s_pu hF rfl rfl rfl (pu_move (hF.ev rfl)) ?_; clear hF; intro a hF
    refine s_pu hF rfl rfl rfl (pu_assign (hF.ev rfl)) ?_; clear hF; intro a hF
    refine s_done ?_
    refine hK4 _ _ ?_; clear hK4
    refine wp_ret ?_
    refine then_ret ?_
    refine fin1 Try.results29 hF rfl ?_
    refine ⟨?_, hS⟩
    congr 2
    omega
  · clear hF; intro hg16 hF   -- slot 16 false
    try simp only [decide_eq_true_eq, decide_eq_false_iff_not, Bool.not_eq_true', Bool.not_eq_false', Int.not_lt, Int.not_le, ne_eq, Decidable.not_not, Bool.or_eq_true, Bool.or_eq_false_iff, Bool.and_eq_true, Bool.and_eq_false_imp] at hg16
    refine s_pu hF rfl rfl rfl (pu_move (hF.ev rfl)) ?_; clear hF; intro a hF
    refine s_pu hF rfl rfl rfl (pu_move (hF.ev rfl)) ?_; clear hF; intro a hF
    refine s_pu hF rfl rfl rfl (pu_move (hF.ev rfl)) ?_; clear hF; intro a hF
    refine s_pu hF rfl rfl rfl ((by first | exact pu_sub64 (hF.ev rfl) (hF.ev rfl) (by omega) | exact pu_sub (hF.ev rfl) (hF.ev rfl))) ?_; clear hF; intro a hF
    refine s_pu hF rfl rfl rfl (pu_gtr (hF.ev rfl) (hF.ev rfl)) ?_; clear hF; intro a hF
    refine s_pu hF rfl rfl rfl ((by first | exact pu_pick_t (hF.ev rfl) (hF.ev rfl) | exact pu_pick_f (hF.ev rfl) (hF.ev rfl) | exact pu_pick (hF.ev rfl) (hF.ev rfl) (hF.ev rfl))) ?_; clear hF; intro a hF
    refine s_done ?_
    refine hK3 _ _ ?_; clear hK3
    refine wp_cond_split (hF.ev rfl) (fun hc0 => ?_) (fun hc0 => ?_)
    · -- cond 0 true
      try simp only [decide_eq_true_eq, decide_eq_false_iff_not, Bool.not_eq_true', Bool.not_eq_false', Int.not_lt, Int.not_le, ne_eq, Decidable.not_not, Bool.or_eq_true, Bool.or_eq_false_iff, Bool.and_eq_true, Bool.and_eq_false_imp] at hc0
      refine wp_seq_k fun K4 hK4 => ?_
      -- region 3
      refine wp_region_lit ?_
      refine s_pu hF rfl rfl rfl (pu_move (hF.ev rfl)) ?_; clear hF; intro a hF
      refine s_pu hF rfl rfl rfl (pu_assign (hF.ev rfl)) ?_; clear hF; intro a hF
      refine s_done ?_
      refine hK4 _ _ ?_; clear hK4
      refine wp_ret ?_
      refine then_ret ?_
      refine fin1 Try.results29 hF rfl ?_
      refine ⟨?_, hS⟩
      congr 2
      omega
    · -- cond 0 false
      try simp only [decide_eq_true_eq, decide_eq_false_iff_not, Bool.not_eq_true', Bool.not_eq_false', Int.not_lt, Int.not_le, ne_eq, Decidable.not_not, Bool.or_eq_true, Bool.or_eq_false_iff, Bool.and_eq_true, Bool.and_eq_false_imp] at hc0
      refine wp_skip ?_
      refine hK2 _ _ ?_; clear hK2
      refine wp_seq_k fun K4 hK4 => ?_
      -- region 4
      refine wp_region_lit ?_
      refine s_pu hF rfl rfl rfl (pu_move (hF.ev rfl)) ?_; clear hF; intro a hF
      refine s_pu hF rfl rfl rfl (pu_move (hF.ev rfl)) ?_; clear hF; intro a hF
      refine s_pu hF rfl rfl rfl ((by first | exact pu_add64 (hF.ev rfl) (hF.ev rfl) (by omega) | exact pu_add (hF.ev rfl) (hF.ev rfl))) ?_; clear hF; intro a hF
      refine s_pu hF rfl rfl rfl (pu_assign (hF.ev rfl)) ?_; clear hF; intro a hF
      refine s_done ?_
      refine hK4 _ _ ?_; clear hK4
      refine wp_ret ?_
      refine fin1 Try.results29 hF rfl ?_
      refine ⟨?_, hS⟩
      congr 2
      omega
end short
end Go.Proofs.Ytgnepnjicmgkaaa
