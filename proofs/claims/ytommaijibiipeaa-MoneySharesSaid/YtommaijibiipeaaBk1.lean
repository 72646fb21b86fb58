import Derived.Test.YtommaijibiipeaaRs1
/-! The book of lists that came out: rows, marks. -/
namespace Go.Proofs.Ytommaijibiipeaa
open Go Go.RowKit Go.Proofs.Ytommaijibiipeaa.Sk
set_option linter.unusedVariables false
set_option linter.unusedSimpArgs false
set_option maxRecDepth 100000

def fRow (p : Value × List Int) : Chunk := rowC 3 1 p.1 p.2.length (ints p.2)
def FR (fs : List (Value × List Int)) : Chunk := star (fs.map fRow)
section
variable {w0 w : World} {C : List Chunk} {fs : List (Value × List Int)} {p : Value × List Int}
theorem perm_out {α : Type} : ∀ {l : List α} {i : Nat} {x : α}, l[i]? = some x → l.Perm (x :: l.eraseIdx i)
  | [], i, x, h => by simp at h
  | y :: r, 0, x, h => by simp at h; subst h; exact List.Perm.refl _
  | y :: r, i + 1, x, h => ((perm_out (l := r) (i := i) (by simpa using h)).cons y).trans (List.Perm.swap _ _ _)
theorem perm_in {α : Type} : ∀ {l : List α} {i : Nat} {x : α}, i < l.length → (x :: l.eraseIdx i).Perm (l.set i x)
  | [], i, x, h => by simp at h
  | y :: r, 0, x, h => List.Perm.refl _
  | y :: r, i + 1, x, h => (List.Perm.swap _ _ _).trans ((perm_in (l := r) (i := i) (by simpa using h)).cons y)
theorem fr_perm {fs gs : List (Value × List Int)} (hp : fs.Perm gs) (h : Sat w0 w (FR fs :: C)) : Sat w0 w (FR gs :: C) :=
  sat_star.2 ((sat_star.1 h).perm ((hp.map fRow).append_right C))
theorem fr_cons : Sat w0 w (FR (p :: fs) :: C) ↔ Sat w0 w (fRow p :: FR fs :: C) := by
  unfold FR
  rw [sat_star]
  constructor
  · intro h
    have h2 : Sat w0 w (List.map fRow fs ++ (fRow p :: C)) := h.perm (by
      simp only [List.map_cons, List.cons_append]
      exact (List.perm_middle).symm)
    exact (sat_star.2 h2).perm (List.Perm.swap _ _ _)
  · intro h
    have h2 := sat_star.1 (h.perm (List.Perm.swap _ _ _))
    exact h2.perm (by
      simp only [List.map_cons, List.cons_append]
      exact List.perm_middle)
theorem fr_out {i : Nat} (h : Sat w0 w (FR fs :: C)) (hi : fs[i]? = some p) : Sat w0 w (fRow p :: FR (fs.eraseIdx i) :: C) := fr_cons.1 (fr_perm (perm_out hi) h)
theorem fr_in {i : Nat} (h : Sat w0 w (fRow p :: FR (fs.eraseIdx i) :: C)) (hi : i < fs.length) : Sat w0 w (FR (fs.set i p) :: C) := fr_perm (perm_in hi) (fr_cons.2 h)
theorem fr_snoc (h : Sat w0 w (fRow p :: FR fs :: C)) : Sat w0 w (FR (fs ++ [p]) :: C) := fr_perm (List.perm_append_singleton _ _).symm (fr_cons.2 h)
theorem fr_nil (h : Sat w0 w C) : Sat w0 w (FR [] :: C) := sat_star.2 h
theorem rd_frow {i : Nat} {F : List Chunk} {A : Option Addr} {c : Nat} {zs : List Int} (hS : Sat w0 w F) (hi : nth F i = some (fRow (.slice A zs.length c, zs))) : Reads w0 F A zs.length zs :=
  .of_row i hi (fun k hk => ints_at hk) rfl (fun h => row_some (i := i) hS hi (by omega))
theorem reads_up {C D : List Chunk} {a : Option Addr} {n : Nat} {zs : List Int} (h : Reads w0 C a n zs) (hs : ∀ w, Sat w0 w D → Sat w0 w C) : Reads w0 D a n zs :=
  ⟨h.long, fun i hi => by obtain ⟨x, e, hv⟩ := h.at_ i hi; exact ⟨x, e, fun w hw => hv w (hs w hw)⟩⟩
/-! ### marks -/
def mk (i : Nat) : Int := -100 - ((i / 12 : Nat) : Int)
def Marked (f : Frag) (m : Int) (v : Value) : Prop := ∃ A n c, v = .slice A n c ∧ n ≤ 1099511627776 ∧ ∀ k, k < n → ∃ g cs, A = some ⟨g, 0, none⟩ ∧ f g = some (.cells cs 3 (0, 0)) ∧ cs[k]? = some (.int .i64 m)
def marksC (L : List Value) : Chunk := .pr fun f => ∀ i v, L[i]? = some v → Marked f (mk i) v
theorem marks_nil (h : Sat w0 w C) : Sat w0 w (marksC [] :: C) := by
  obtain ⟨f, hf, hs⟩ := h.own
  have e : join (fun _ => none) f = f := by funext i; rfl
  exact ⟨h.os, h.tape, h.output, h.size, join (fun _ => none) f, .cons (by intro i v hv; simp at hv) hf (fun _ => .inl rfl), by rw [e]; exact hs⟩
theorem marks_read {L : List Value} {i : Nat} {v : Value} (h : Sat w0 w (marksC L :: C)) (hi : L[i]? = some v) : ∃ A n c, v = .slice A n c ∧ n ≤ 1099511627776 ∧ ∀ k, k < n → ∃ g, A = some ⟨g, 0, none⟩ ∧ w.cell? ⟨g, 0 + (k : Int).toNat * 1, none⟩ = some (.int .i64 (mk i)) := by
  obtain ⟨f, hf, hs⟩ := h.own
  obtain ⟨g1, h1, hg, hk, ha, rfl⟩ := made_cons.1 hf
  obtain ⟨A, n, c, e, hn, hr⟩ := hg i v hi
  refine ⟨A, n, c, e, hn, fun k hk => ?_⟩
  obtain ⟨g, cs, e, h2, h3⟩ := hr k hk
  refine ⟨g, e, ?_⟩
  have := hs g _ (join_some h2)
  simp [World.cell?, this, h3]
theorem Marked.join {f g : Frag} {m : Int} {v : Value} (h : Marked f m v) : Marked (join f g) m v := by
  obtain ⟨A, n, c, e, hn, hr⟩ := h
  refine ⟨A, n, c, e, hn, fun k hk => ?_⟩
  obtain ⟨b, cs, e, h2, h3⟩ := hr k hk
  exact ⟨b, cs, e, join_some h2, h3⟩
/-- A row that is full of one mark: what was seen of it is marked, for good. -/
theorem marks_retire {L news : List Value} {A : Option Addr} {n c : Nat} {m : Int} (h : Sat w0 w (rowC 3 1 (.slice A n c) n (ints (List.replicate n m)) :: marksC L :: C)) (hn : n ≤ 1099511627776)
    (hnew : ∀ j v, news[j]? = some v → mk (L.length + j) = m ∧ ∃ n' c', v = .slice A n' c' ∧ n' ≤ n) : Sat w0 w (marksC (L ++ news) :: C) := by
  obtain ⟨f, hf, hs⟩ := h.own
  obtain ⟨g1, h1, hg, hk, ha, rfl⟩ := made_cons.1 hf
  obtain ⟨g2, h2, hg2, hk2, ha2, rfl⟩ := made_cons.1 hk
  refine ⟨h.os, h.tape, h.output, h.size, Sk.join (Sk.join g2 g1) h2, .cons ?_ hk2 ?_, ?_⟩
  · intro i v hv
    by_cases hi : i < L.length
    · rw [List.getElem?_append_left hi] at hv
      exact (hg2 i v hv).join
    · rw [List.getElem?_append_right (by omega)] at hv
      obtain ⟨e1, n', c', rfl, hn'⟩ := hnew _ _ hv
      rw [show L.length + (i - L.length) = i by omega] at e1
      refine ⟨A, n', c', rfl, by omega, fun k hk => ?_⟩
      obtain ⟨_, hr⟩ := hg
      rcases hr with ⟨e2, hn0, _⟩ | ⟨g, cap, cur, e2, h3, h4, h5, h6, h7⟩
      · omega
      · injection e2 with e2 e3 e4
        refine ⟨g, cur, e2, ?_, ?_⟩
        · rw [or_comm (apart_or.1 ha).1.symm]
          have h8 : g1 = _ := h7
          subst h8
          exact join_some (by simp)
        · have h9 : (cur.toList.take (n * 1))[k]? = some (.int .i64 m) := by
            rw [h6]
            simp [ints, List.getElem?_replicate, show k < n by omega]
          rw [List.getElem?_take, if_pos (by omega)] at h9
          rw [e1]
          simpa using h9
  · have := apart_or.1 ha
    exact apart_or'.2 ⟨ha2, this.2⟩
  · have e : Sk.join (Sk.join g2 g1) h2 = Sk.join g1 (Sk.join g2 h2) := by
      rw [or_comm (apart_or.1 ha).1.symm, Sk.or_assoc]
    rw [e]
    exact hs
end
/-- The book at b: the untouched lists fs, what they must be ws, the marked ones L. -/
def bkC (b : Nat) (fs ws : List (Value × List Int)) (L : List Value) : Chunk := exC fun vf => exC fun vw => exC fun vl => star [.obj b (.cells #[vf, vw, vl] 34), rowC 22 1 vf fs.length (fs.map (·.1)), rowC 22 1 vw ws.length (ws.map (·.1)), rowC 22 1 vl L.length L, marksC L, FR fs, FR ws]
theorem bk_open {w0 w : World} {C : List Chunk} {b : Nat} {fs ws : List (Value × List Int)} {L : List Value} (h : Sat w0 w (bkC b fs ws L :: C)) : ∃ Af cf Aw cw Al cl,
    Sat w0 w (.obj b (.cells #[.slice Af fs.length cf, .slice Aw ws.length cw, .slice Al L.length cl] 34) :: rowC 22 1 (.slice Af fs.length cf) fs.length (fs.map (·.1)) :: rowC 22 1 (.slice Aw ws.length cw) ws.length (ws.map (·.1)) :: rowC 22 1 (.slice Al L.length cl) L.length L :: marksC L :: FR fs :: FR ws :: C) := by
  obtain ⟨vf, h⟩ := sat_ex.1 h
  obtain ⟨vw, h⟩ := sat_ex.1 h
  obtain ⟨vl, h⟩ := sat_ex.1 h
  replace h := sat_star.1 h
  obtain ⟨Af, cf, rfl, _⟩ := row_val (h.front 1 rfl)
  obtain ⟨Aw, cw, rfl, _⟩ := row_val (h.front 2 rfl)
  obtain ⟨Al, cl, rfl, _⟩ := row_val (h.front 3 rfl)
  exact ⟨Af, cf, Aw, cw, Al, cl, h⟩
theorem bk_shut {w0 w : World} {C : List Chunk} {b : Nat} {fs ws : List (Value × List Int)} {L : List Value} {vf vw vl : Value}
    (h : Sat w0 w (.obj b (.cells #[vf, vw, vl] 34) :: rowC 22 1 vf fs.length (fs.map (·.1)) :: rowC 22 1 vw ws.length (ws.map (·.1)) :: rowC 22 1 vl L.length L :: marksC L :: FR fs :: FR ws :: C)) : Sat w0 w (bkC b fs ws L :: C) :=
  sat_ex.2 ⟨vf, sat_ex.2 ⟨vw, sat_ex.2 ⟨vl, sat_star.2 h⟩⟩⟩
theorem same_c {w0 w : World} {C : List Chunk} {A B : Option Addr} {n c d : Nat} {zs : List Int} (hS : Sat w0 w C) (h1 : Reads w0 C A n zs) (h2 : Reads w0 C B n zs) (hn : n ≤ 140737488355328) :
    Calls Try.prog 25 #[.slice A n c, .slice B n d] w fun e w' => e = .returned (.bool true) ∧ Sat w0 w' C := by
  refine enter Try.func25 rfl Try.ntmps25 (Nat.le_of_ble_eq_true rfl) fun a hF => ?_
  refine wp_seq_k fun K0 hK0 => ?_
  -- region 0
  refine wp_region_lit ?_
  refine s_pu hF rfl rfl rfl (pu_assign (hF.ev rfl)) ?_; clear hF; intro a hF
  refine s_done ?_
  refine hK0 _ _ ?_; clear hK0
  refine wp_seq_k fun K1 hK1 => ?_
  refine wp_seq_k fun K2 hK2 => ?_
  -- region 1
  refine wp_region_lit ?_
  refine s_pu hF rfl rfl rfl (pu_move (hF.ev rfl)) ?_; clear hF; intro a hF
  refine s_pu hF rfl rfl rfl (pu_len sl22 (hF.ev rfl)) ?_; clear hF; intro a hF
  refine s_pu hF rfl rfl rfl (pu_move (hF.ev rfl)) ?_; clear hF; intro a hF
  refine s_pu hF rfl rfl rfl (pu_len sl22 (hF.ev rfl)) ?_; clear hF; intro a hF
  refine s_pu hF rfl rfl rfl (pu_neq (hF.ev rfl) (hF.ev rfl)) ?_; clear hF; intro a hF
  refine s_done ?_
  refine hK2 _ _ ?_; clear hK2
  refine wp_cond_split (hF.ev rfl) (fun hc0 => ?_) (fun hc0 => ?_)
  · -- cond 0 true
    try simp only [decide_eq_true_eq, decide_eq_false_iff_not, Bool.not_eq_true', Bool.not_eq_false', Int.not_lt, Int.not_le, ne_eq, Decidable.not_not, Bool.or_eq_true, Bool.or_eq_false_iff, Bool.and_eq_true, Bool.and_eq_false_imp] at hc0
    first | exact absurd rfl hc0 | exact absurd trivial hc0 | omega
  · -- cond 0 false
    try simp only [decide_eq_true_eq, decide_eq_false_iff_not, Bool.not_eq_true', Bool.not_eq_false', Int.not_lt, Int.not_le, ne_eq, Decidable.not_not, Bool.or_eq_true, Bool.or_eq_false_iff, Bool.and_eq_true, Bool.and_eq_false_imp] at hc0
    refine wp_skip ?_
    refine hK1 _ _ ?_; clear hK1
    refine wp_seq_k fun K3 hK3 => ?_
    refine wp_seq_k fun K4 hK4 => ?_
    -- region 3
    refine wp_region_lit ?_
    refine s_pu hF rfl rfl rfl (pu_assign (hF.ev rfl)) ?_; clear hF; intro a hF
    refine s_done ?_
    refine hK4 _ _ ?_; clear hK4
    refine wp_block ?_
    refine wp_ind (fun j a w => ∃ (i : Nat), j = n - i ∧ i ≤ n ∧ Fr a 26 [(0, .slice A n c), (1, .slice B n d), (5, .int .i64 i)] ∧ Sat w0 w C) n
      ⟨0, by omega, by omega, hF.sub ⟨rfl, rfl, rfl, trivial⟩, hS⟩ ?_
    clear hS hF
    rintro j a w ⟨i, rfl, hi, hF, hS⟩
    refine wp_seq_k fun K5 hK5 => ?_
    refine wp_seq_k fun K6 hK6 => ?_
    -- region 4
    refine wp_region_lit ?_
    refine s_pu hF rfl rfl rfl (pu_move (hF.ev rfl)) ?_; clear hF; intro a hF
    refine s_pu hF rfl rfl rfl (pu_move (hF.ev rfl)) ?_; clear hF; intro a hF
    refine s_pu hF rfl rfl rfl (pu_len sl22 (hF.ev rfl)) ?_; clear hF; intro a hF
    refine s_pu hF rfl rfl rfl (pu_lss (hF.ev rfl) (hF.ev rfl)) ?_; clear hF; intro a hF
    refine s_done ?_
    refine hK6 _ _ ?_; clear hK6
    refine wp_cond_split (hF.ev rfl) (fun hc1 => ?_) (fun hc1 => ?_)
    · -- cond 1 true
      try simp only [decide_eq_true_eq, decide_eq_false_iff_not, Bool.not_eq_true', Bool.not_eq_false', Int.not_lt, Int.not_le, ne_eq, Decidable.not_not, Bool.or_eq_true, Bool.or_eq_false_iff, Bool.and_eq_true, Bool.and_eq_false_imp] at hc1
      have hin : i < n := by omega
      obtain ⟨x, rfl, hv⟩ := h1.at_ i hin
      obtain ⟨y, rfl, hu⟩ := h2.at_ i hin
      refine wp_skip ?_
      refine hK5 _ _ ?_; clear hK5
      refine wp_seq_k fun K7 hK7 => ?_
      refine wp_block ?_
      refine wp_seq_k fun K8 hK8 => ?_
      -- region 6
      refine d_start (S := (fun w => Sat w0 w _)) (ds := []) (ord := [(0, .pu), (1, .pu), (2, .pu), (3, .tk), (4, .pu), (5, .pu), (6, .pu), (7, .tk), (8, .pu)]) mixed ⟨by kernel_rfl, fun _ d _ _ _ h => by cases d <;> exact h⟩ hS.drew fun hD => ?_
      replace hS := hS.drew; generalize w.drew = w at hS ⊢
      refine d_pu hD hF rfl rfl rfl rfl rfl (pu_move (hF.ev rfl)) ?_; clear hF; intro a hF
      refine d_pu hD hF rfl rfl rfl rfl rfl (pu_move (hF.ev rfl)) ?_; clear hF; intro a hF
      refine d_pu hD hF rfl rfl rfl rfl rfl ((by first | exact pu_elem sl22 (hF.ev rfl) (hF.ev rfl) (by first | omega | simp) (by first | omega | (simp; done) | (simp; omega)) | exact pu_elemA sl22 (hF.ev rfl) (hF.ev rfl) (by omega) (by omega))) ?_; clear hF; intro a hF
      refine d_rd hD hF rfl rfl rfl rfl rfl hS (fun w hS => rd_load pl3 (hF.ev rfl) (hv w hS)) ?_; clear hF; intro a hF
      refine d_pu hD hF rfl rfl rfl rfl rfl (pu_move (hF.ev rfl)) ?_; clear hF; intro a hF
      refine d_pu hD hF rfl rfl rfl rfl rfl (pu_move (hF.ev rfl)) ?_; clear hF; intro a hF
      refine d_pu hD hF rfl rfl rfl rfl rfl ((by first | exact pu_elem sl22 (hF.ev rfl) (hF.ev rfl) (by first | omega | simp) (by first | omega | (simp; done) | (simp; omega)) | exact pu_elemA sl22 (hF.ev rfl) (hF.ev rfl) (by omega) (by omega))) ?_; clear hF; intro a hF
      refine d_rd hD hF rfl rfl rfl rfl rfl hS (fun w hS => rd_load pl3 (hF.ev rfl) (hu w hS)) ?_; clear hF; intro a hF
      refine d_pu hD hF rfl rfl rfl rfl rfl (pu_neq (hF.ev rfl) (hF.ev rfl)) ?_; clear hF; intro a hF
      refine d_done hD rfl ?_; clear hD
      refine hK8 _ _ ?_; clear hK8
      refine wp_cond_split (hF.ev rfl) (fun hc2 => ?_) (fun hc2 => ?_)
      · -- cond 2 true
        try simp only [decide_eq_true_eq, decide_eq_false_iff_not, Bool.not_eq_true', Bool.not_eq_false', Int.not_lt, Int.not_le, ne_eq, Decidable.not_not, Bool.or_eq_true, Bool.or_eq_false_iff, Bool.and_eq_true, Bool.and_eq_false_imp] at hc2
        first | exact absurd rfl hc2 | exact absurd trivial hc2 | omega
      · -- cond 2 false
        try simp only [decide_eq_true_eq, decide_eq_false_iff_not, Bool.not_eq_true', Bool.not_eq_false', Int.not_lt, Int.not_le, ne_eq, Decidable.not_not, Bool.or_eq_true, Bool.or_eq_false_iff, Bool.and_eq_true, Bool.and_eq_false_imp] at hc2
        refine wp_skip ?_
        refine blk_normal ?_
        refine hK7 _ _ ?_; clear hK7
        -- region 5
        refine wp_region_lit ?_
        refine s_pu hF rfl rfl rfl (pu_move (hF.ev rfl)) ?_; clear hF; intro a hF
        refine s_pu hF rfl rfl rfl ((by first | exact pu_add64 (hF.ev rfl) (hF.ev rfl) (by omega) | exact pu_add (hF.ev rfl) (hF.ev rfl))) ?_; clear hF; intro a hF
        refine s_pu hF rfl rfl rfl (pu_assign (hF.ev rfl)) ?_; clear hF; intro a hF
        refine s_done ?_
        exact ⟨_, by omega, i + 1, rfl, by omega, hF.sub ⟨rfl, rfl, rfl, trivial⟩, hS⟩
    · -- cond 1 false
      try simp only [decide_eq_true_eq, decide_eq_false_iff_not, Bool.not_eq_true', Bool.not_eq_false', Int.not_lt, Int.not_le, ne_eq, Decidable.not_not, Bool.or_eq_true, Bool.or_eq_false_iff, Bool.and_eq_true, Bool.and_eq_false_imp] at hc1
      refine wp_exit ?_
      refine then_exit ?_
      refine then_exit ?_
      refine blk_exit ?_
      refine hK3 _ _ ?_; clear hK3
      refine wp_seq_k fun K7 hK7 => ?_
      -- region 8
      refine wp_region_lit ?_
      refine s_pu hF rfl rfl rfl (pu_assign (hF.ev rfl)) ?_; clear hF; intro a hF
      refine s_done ?_
      refine hK7 _ _ ?_; clear hK7
      refine wp_ret ?_
      refine fin1 Try.results25 hF rfl ?_
      exact ⟨rfl, hS⟩
end Go.Proofs.Ytommaijibiipeaa
