import Derived.Test.YtbpkfifiigpdcaaSk30
import Derived.Test.YtbpkfifiigpdcaaSk26
/-! Sk, part thirty-one: books of lists: rows of one's own, and lists full of marks. -/
namespace Go.Proofs.Ytbpkfifiigpdcaa.Sk
open Go Go.RowKit
set_option linter.unusedVariables false
set_option linter.unusedSimpArgs false

theorem perm_out {α : Type} : ∀ {l : List α} {i : Nat} {x : α}, l[i]? = some x → l.Perm (x :: l.eraseIdx i)
  | [], i, x, h => by simp at h
  | y :: r, 0, x, h => by simp at h; subst h; exact List.Perm.refl _
  | y :: r, i + 1, x, h => ((perm_out (l := r) (i := i) (by simpa using h)).cons y).trans (List.Perm.swap _ _ _)
theorem perm_in {α : Type} : ∀ {l : List α} {i : Nat} {x : α}, i < l.length → (x :: l.eraseIdx i).Perm (l.set i x)
  | [], i, x, h => by simp at h
  | y :: r, 0, x, h => List.Perm.refl _
  | y :: r, i + 1, x, h => (List.Perm.swap _ _ _).trans ((perm_in (l := r) (i := i) (by simpa using h)).cons y)
/-- A list that came out: its value, how many elements, their cells. -/
structure Lst where
  v : Value
  n : Nat
  xs : List Value
def lRow (E sz : Nat) (p : Lst) : Chunk := rowC E sz p.v p.n p.xs
def LR (E sz : Nat) (fs : List Lst) : Chunk := star (fs.map (lRow E sz))
section
variable {w0 w : World} {C : List Chunk} {fs gs : List Lst} {p : Lst} {E sz : Nat}
theorem lr_perm (hp : fs.Perm gs) (h : Sat w0 w (LR E sz fs :: C)) : Sat w0 w (LR E sz gs :: C) :=
  sat_star.2 ((sat_star.1 h).perm ((hp.map (lRow E sz)).append_right C))
theorem lr_cons : Sat w0 w (LR E sz (p :: fs) :: C) ↔ Sat w0 w (lRow E sz p :: LR E sz fs :: C) := by
  unfold LR
  rw [sat_star]
  constructor
  · intro h
    have h2 : Sat w0 w (List.map (lRow E sz) fs ++ (lRow E sz p :: C)) := h.perm (by
      simp only [List.map_cons, List.cons_append]
      exact (List.perm_middle).symm)
    exact (sat_star.2 h2).perm (List.Perm.swap _ _ _)
  · intro h
    have h2 := sat_star.1 (h.perm (List.Perm.swap _ _ _))
    exact h2.perm (by
      simp only [List.map_cons, List.cons_append]
      exact List.perm_middle)
theorem lr_out {i : Nat} (h : Sat w0 w (LR E sz fs :: C)) (hi : fs[i]? = some p) : Sat w0 w (lRow E sz p :: LR E sz (fs.eraseIdx i) :: C) := lr_cons.1 (lr_perm (perm_out hi) h)
theorem lr_in {i : Nat} (h : Sat w0 w (lRow E sz p :: LR E sz (fs.eraseIdx i) :: C)) (hi : i < fs.length) : Sat w0 w (LR E sz (fs.set i p) :: C) := lr_perm (perm_in hi) (lr_cons.2 h)
theorem lr_back {i : Nat} (h : Sat w0 w (lRow E sz p :: LR E sz (fs.eraseIdx i) :: C)) (hi : fs[i]? = some p) : Sat w0 w (LR E sz fs :: C) := lr_perm (perm_out hi).symm (lr_cons.2 h)
theorem lr_snoc (h : Sat w0 w (lRow E sz p :: LR E sz fs :: C)) : Sat w0 w (LR E sz (fs ++ [p]) :: C) := lr_perm (List.perm_append_singleton _ _).symm (lr_cons.2 h)
theorem lr_nil (h : Sat w0 w C) : Sat w0 w (LR E sz [] :: C) := sat_star.2 h
theorem lr_val {i j : Nat} {F : List Chunk} (hS : Sat w0 w F) (hi : nth F i = some (LR E sz fs)) (hj : fs[j]? = some p) : ∃ A c, p.v = .slice A p.n c ∧ p.n ≤ c := by
  obtain ⟨A, c, e, h, _⟩ := row_val (lr_out (hS.front i hi) hj)
  exact ⟨A, c, e, h⟩
/-! ### marks -/
def rep (k : Nat) (m : List Value) : List Value := (List.replicate k m).flatten
theorem rep_len {k : Nat} {m : List Value} (h : m.length = sz) : (rep k m).length = k * sz := by
  induction k with
  | zero => simp [rep]
  | succ k ih =>
    simp only [rep, List.replicate_succ, List.flatten_cons, List.length_append] at ih ⊢
    rw [ih, h, Nat.add_mul, Nat.one_mul, Nat.add_comm]
theorem rep_snoc {k : Nat} {m : List Value} : rep (k + 1) m = rep k m ++ m := by
  unfold rep
  rw [List.replicate_succ', List.flatten_append]
  simp
theorem rep_at {k i j : Nat} {m : List Value} {u : Value} (h : m.length = sz) (hi : i < k) (hu : m[j]? = some u) : (rep k m)[i * sz + j]? = some u := by
  have hj : j < sz := by rw [← h]; exact (List.getElem?_eq_some_iff.1 hu).1
  induction k generalizing i with
  | zero => omega
  | succ k ih =>
    unfold rep at ih ⊢
    rw [List.replicate_succ, List.flatten_cons]
    cases i with
    | zero =>
      rw [Nat.zero_mul, Nat.zero_add, List.getElem?_append_left (by omega)]
      exact hu
    | succ i =>
      rw [List.getElem?_append_right (by rw [h, Nat.add_mul]; omega), h, show (i + 1) * sz + j - sz = i * sz + j by rw [Nat.add_mul]; omega]
      exact ih (by omega)
theorem rep_fill {k n : Nat} {m zs : List Value} (h : m.length = sz) (hz : zs.length = n * sz) (hk : k < n) :
    (rep k m ++ zs.drop (k * sz)).take (k * sz) ++ m ++ (rep k m ++ zs.drop (k * sz)).drop (k * sz + sz) = rep (k + 1) m ++ zs.drop ((k + 1) * sz) := by
  have hl := rep_len (k := k) h
  rw [List.take_append_of_le_length (by omega), List.take_of_length_le (by omega), ← rep_snoc]
  congr 1
  rw [List.drop_append, List.drop_of_length_le (by omega), hl, List.nil_append, List.drop_drop]
  congr 1
  rw [Nat.add_mul]
  omega
/-- v is a list of which each element's cells are m. -/
def Marked (E sz : Nat) (f : Frag) (m : List Value) (v : Value) : Prop := ∃ A n c, v = .slice A n c ∧ n ≤ 17592186044415 ∧ ∀ k, k < n → ∃ g cs, A = some ⟨g, 0, none⟩ ∧ f g = some (.cells cs E (0, 0)) ∧ ∀ j u, m[j]? = some u → cs[k * sz + j]? = some u
def marksC (E sz : Nat) (mk : Nat → List Value) (L : List Value) : Chunk := .pr fun f => ∀ i v, L[i]? = some v → Marked E sz f (mk i) v
variable {mk : Nat → List Value}
theorem marks_nil (h : Sat w0 w C) : Sat w0 w (marksC E sz mk [] :: C) := by
  obtain ⟨f, hf, hs⟩ := h.own
  have e : join (fun _ => none) f = f := by funext i; rfl
  exact ⟨h.os, h.tape, h.output, h.size, join (fun _ => none) f, .cons (by intro i v hv; simp at hv) hf (fun _ => .inl rfl), by rw [e]; exact hs⟩
theorem marks_read {L : List Value} {i : Nat} {v : Value} (h : Sat w0 w (marksC E sz mk L :: C)) (hi : L[i]? = some v) : ∃ A n c, v = .slice A n c ∧ n ≤ 17592186044415 ∧ ∀ k, k < n → ∃ g, A = some ⟨g, 0, none⟩ ∧ ∀ j u, (mk i)[j]? = some u → w.cell? ⟨g, 0 + (k : Int).toNat * sz + j, none⟩ = some u := by
  obtain ⟨f, hf, hs⟩ := h.own
  obtain ⟨g1, h1, hg, hk, ha, rfl⟩ := made_cons.1 hf
  obtain ⟨A, n, c, e, hn, hr⟩ := hg i v hi
  refine ⟨A, n, c, e, hn, fun k hk => ?_⟩
  obtain ⟨g, cs, e, h2, h3⟩ := hr k hk
  refine ⟨g, e, fun j u hu => ?_⟩
  have := hs g _ (join_some h2)
  simp [World.cell?, this, h3 j u hu]
theorem Marked.join {f g : Frag} {m : List Value} {v : Value} (h : Marked E sz f m v) : Marked E sz (join f g) m v := by
  obtain ⟨A, n, c, e, hn, hr⟩ := h
  refine ⟨A, n, c, e, hn, fun k hk => ?_⟩
  obtain ⟨b, cs, e, h2, h3⟩ := hr k hk
  exact ⟨b, cs, e, join_some h2, h3⟩
/-- A row that is full of one mark: what was seen of it is marked, for good. -/
theorem marks_retire {L news : List Value} {A : Option Addr} {n c : Nat} {m : List Value} (h : Sat w0 w (rowC E sz (.slice A n c) n (rep n m) :: marksC E sz mk L :: C)) (hm : m.length = sz) (hn : n ≤ 17592186044415)
    (hnew : ∀ j v, news[j]? = some v → mk (L.length + j) = m ∧ ∃ n' c', v = .slice A n' c' ∧ n' ≤ n) : Sat w0 w (marksC E sz mk (L ++ news) :: C) := by
  obtain ⟨f, hf, hs⟩ := h.own
  obtain ⟨g1, h1, hg, hk, ha, rfl⟩ := made_cons.1 hf
  obtain ⟨g2, h2, hg2, hk2, ha2, rfl⟩ := made_cons.1 hk
  refine ⟨h.os, h.tape, h.output, h.size, Sk.join (Sk.join g2 g1) h2, .cons ?_ hk2 ?_, ?_⟩
  · intro i v hv
    by_cases hi : i < L.length
    · rw [List.getElem?_append_left hi] at hv
      exact (hg2 i v hv).join
    · rw [List.getElem?_append_right (by omega)] at hv
      obtain ⟨e1, n', c', rfl, hn'⟩ := hnew _ _ hv
      rw [show L.length + (i - L.length) = i by omega] at e1
      refine ⟨A, n', c', rfl, by omega, fun k hk => ?_⟩
      obtain ⟨_, hr⟩ := hg
      rcases hr with ⟨e2, hn0, _⟩ | ⟨g, cap, cur, e2, h3, h4, h5, h6, h7⟩
      · omega
      · injection e2 with e2 e3 e4
        refine ⟨g, cur, e2, ?_, fun j u hu => ?_⟩
        · rw [or_comm (apart_or.1 ha).1.symm]
          have h8 : g1 = _ := h7
          subst h8
          exact join_some (by simp)
        · rw [e1] at hu
          have h9 : (cur.toList.take (n * sz))[k * sz + j]? = some u := by
            rw [h6]
            exact rep_at hm (by omega) hu
          rw [List.getElem?_take] at h9
          split at h9
          · simpa using h9
          · cases h9
  · have := apart_or.1 ha
    exact apart_or'.2 ⟨ha2, this.2⟩
  · have e : Sk.join (Sk.join g2 g1) h2 = Sk.join g1 (Sk.join g2 h2) := by
      rw [or_comm (apart_or.1 ha).1.symm, Sk.or_assoc]
    rw [e]
    exact hs
/-- Of the marked lists, far of them bear each mark. -/
theorem marks_split {far : Nat} {mq : Nat → List Value} (hmk : ∀ i, mk i = mq (i / far)) {l : List Value} {A : Option Addr} {n c j0 q : Nat} (h : Sat w0 w (rowC E sz (.slice A n c) n (rep n (mq q)) :: marksC E sz mk (l.take j0) :: C)) (hm : (mq q).length = sz) (hn : n ≤ 17592186044415) (hfar : 0 < far) (hj : j0 ≤ l.length) (hq : far * q ≤ j0) (hl : l.length ≤ far * q + far)
    (hnew : ∀ j v, j0 ≤ j → l[j]? = some v → ∃ n' c', v = .slice A n' c' ∧ n' ≤ n) : Sat w0 w (marksC E sz mk l :: C) := by
  have h1 := marks_retire (news := l.drop j0) h hm hn (fun j v hv => by
    rw [List.getElem?_drop] at hv
    have hlt := (List.getElem?_eq_some_iff.1 hv).1
    refine ⟨?_, hnew _ v (by omega) hv⟩
    rw [List.length_take, Nat.min_eq_left hj, hmk]
    rw [show (j0 + j) / far = q from Nat.div_eq_of_lt_le (by rw [Nat.mul_comm]; omega) (by rw [Nat.mul_comm, Nat.mul_add, Nat.mul_one]; omega)])
  rwa [List.take_append_drop] at h1
/-- The first i of the rows are full of their marks. -/
structure Filled (mq : Nat → List Value) (fs gs : List Lst) (i : Nat) : Prop where
  len : gs.length = fs.length
  val : gs.map Lst.v = fs.map Lst.v
  cnt : ∀ (j : Nat) (p p' : Lst), fs[j]? = some p → gs[j]? = some p' → p'.n = p.n
  full : ∀ (j : Nat) (p : Lst), j < i → gs[j]? = some p → p.xs = rep p.n (mq j)
theorem Filled.none {mq : Nat → List Value} : Filled mq fs fs 0 := ⟨rfl, rfl, fun j p p' h h' => by rw [h] at h'; cases h'; rfl, fun j p h => by omega⟩
theorem Filled.step {mq : Nat → List Value} {i : Nat} (h : Filled mq fs gs i) (hp : gs[i]? = some p) : Filled mq fs (gs.set i ⟨p.v, p.n, rep p.n (mq i)⟩) (i + 1) := by
  have hi := (List.getElem?_eq_some_iff.1 hp).1
  refine ⟨by rw [List.length_set, h.len], ?_, ?_, ?_⟩
  · rw [← h.val, List.map_set]
    apply List.ext_getElem?
    intro j
    rw [List.getElem?_set]
    split
    · rename_i e; subst e; simp [hi, (List.getElem?_eq_some_iff.1 hp).2]
    · rfl
  · intro j a b ha hb
    rw [List.getElem?_set] at hb
    split at hb
    · rename_i e
      subst e
      cases hb
      have := h.cnt _ _ _ ha hp
      exact this
    · exact h.cnt _ _ _ ha hb
  · intro j a hj ha
    rw [List.getElem?_set] at ha
    split at ha
    · rename_i e
      subst e
      cases ha
      rfl
    · rename_i e
      exact h.full j a (by omega) ha
end
end Go.Proofs.Ytbpkfifiigpdcaa.Sk
