import Derived.Test.YtbfdebddoncfhaaPo1
/-! PendingOnce, the plain part: those that become late in a tick. -/
namespace Go.Proofs.Ytbfdebddoncfhaa
open Go Go.RowKit Go.Proofs.Ytbfdebddoncfhaa.Sk
set_option linter.unusedVariables false
set_option linter.unusedSimpArgs false
set_option maxRecDepth 100000

structure P2 (m : Nat) (to fo nw : Int) (E C W : List Lv) (P : List Ent) (last : Int) : Prop where
  ids : ((E ++ (C ++ W)).map Lv.i).Pairwise (· < ·)
  et : (E.map Lv.t).Pairwise (· < ·)
  tle : ∀ x ∈ E, x.t ≤ last
  perm : P.Perm (E.map (Lv.le to fo) ++ W.map (Lv.we to))
  rise : Rising P last
  el : E.length ≤ m
  a0 : ∀ x ∈ E, 0 ≤ x.a + to + fo
  ca : ∀ c ∈ C, c.a + to = nw
  cw : (C ++ W).length ≤ 9
theorem perm_del {Q R : List Ent} {e : Ent} {l : Int} (hR : Rising Q l) (hp : Q.Perm (e :: R)) : (Q.filter fun x => !decide (x.timer = e.timer)).Perm R := by
  have hn := (hp.map Ent.timer).nodup_iff.1 hR.nodup
  rw [List.map_cons, List.nodup_cons] at hn
  have e1 : (e :: R).filter (fun x => !decide (x.timer = e.timer)) = R := by
    rw [List.filter_cons, if_neg (by simp)]
    refine List.filter_eq_self.2 fun x hx => ?_
    have : x.timer ≠ e.timer := fun h => hn.1 (h ▸ List.mem_map_of_mem hx)
    simpa using this
  have h1 := hp.filter (fun x => !decide (x.timer = e.timer))
  rw [e1] at h1
  exact h1
section
variable {m next : Nat} {to fo nw : Int}
theorem pass2_fold (hm : 1 ≤ m ∧ m ≤ 9) (hfo : 1 ≤ fo ∧ fo ≤ 15) (hto : 1 ≤ to) (hnw : 0 ≤ nw ∧ nw ≤ 1000000) {ds : List Int} {D C : List Lv} (h : Inter ds D C) :
    ∀ (E W : List Lv) (P : List Ent) (last : Int) (lt gn : List Pnd), P2 m to fo nw E C W P last → (∀ d ∈ D, ∀ x ∈ E ++ (C ++ W), x.i ≠ d.i) → 0 ≤ last → last + C.length ≤ 1000000000 →
      ∃ X Y P', ds.foldl pass2 ((⟨(m : Int), to, fo, next, E.map Lv.lt ++ (C ++ W).map Lv.wt, P, nw, last⟩ : Tab), lt, gn) = ((⟨(m : Int), to, fo, next, Y.map Lv.lt ++ W.map Lv.wt, P', nw, last + C.length⟩ : Tab), lt ++ C.map (fun x => req x.i), gn ++ X.map fun x => req x.i) ∧
        Run2 ((⟨(m : Int), to, fo, next, E.map Lv.lt ++ (C ++ W).map Lv.wt, P, nw, last⟩ : Tab), lt, gn) ds ∧ (X ++ Y).map Lv.key = (E ++ C).map Lv.key ∧ ((E.length + C.length ≤ m ∧ X = []) ∨ X.length + m = E.length + C.length) ∧
        P2 m to fo nw Y [] W P' (last + C.length) := by
  induction h with
  | nil =>
    intro E W P last lt gn hP hD hl0 hl1
    refine ⟨[], E, P, by simp, trivial, by simp, .inl ⟨by have := hP.el; simpa using this, rfl⟩, by simpa using hP⟩
  | @l ds D C d h ih =>
    intro E W P last lt gn hP hD hl0 hl1
    have hf : findN (E.map Lv.lt ++ (C ++ W).map Lv.wt) (d.i : Int) = none := by
      unfold findN
      rw [List.find?_eq_none]
      intro x hx
      have : ∃ y ∈ E ++ (C ++ W), x.n = y.i := by
        rcases List.mem_append.1 hx with hx | hx
        · obtain ⟨y, hy, rfl⟩ := List.mem_map.1 hx
          exact ⟨y, by simp [hy], rfl⟩
        · obtain ⟨y, hy, rfl⟩ := List.mem_map.1 hx
          exact ⟨y, List.mem_append_right _ hy, rfl⟩
      obtain ⟨y, hy, hxy⟩ := this
      have := hD d (by simp) y hy
      simp
      omega
    have hp : ∀ P last lt gn, pass2 ((⟨(m : Int), to, fo, next, E.map Lv.lt ++ (C ++ W).map Lv.wt, P, nw, last⟩ : Tab), lt, gn) (d.i : Int) = ((⟨(m : Int), to, fo, next, E.map Lv.lt ++ (C ++ W).map Lv.wt, P, nw, last⟩ : Tab), lt, gn) := by
      intro P last lt gn
      unfold pass2
      simp only [hf]
    obtain ⟨X, Y, P', h1, h2, h3, h4, h5⟩ := ih E W P last lt gn hP (fun d' hd' => hD d' (by simp [hd'])) hl0 hl1
    refine ⟨X, Y, P', ?_, ⟨?_, ?_⟩, h3, h4, h5⟩
    · rw [List.foldl_cons, hp, h1]
    · intro e he
      simp only at he
      rw [hf] at he
      cases he
    · rw [hp]; exact h2
  | @r ds D C c h ih =>
    intro E W P last lt gn hP hD hl0 hl1
    have hno := ids_nodup hP.ids
    obtain ⟨c', hc'⟩ : ∃ c' : Lv, c' = ⟨c.i, c.a, last + 1⟩ := ⟨_, rfl⟩
    have hca := hP.ca c (by simp)
    have hcw := hP.cw
    have hel := hP.el
    simp only [List.length_append, List.length_cons] at hcw hl1
    have hL : E.map Lv.lt ++ (c :: C ++ W).map Lv.wt = E.map Lv.lt ++ c.wt :: (C ++ W).map Lv.wt := rfl
    rw [hL] at hno
    have hf : findN (E.map Lv.lt ++ (c :: C ++ W).map Lv.wt) (c.i : Int) = some c.wt := by
      rw [hL]
      exact findN_mem (e := c.wt) hno (by simp)
    obtain ⟨T, hT⟩ : ∃ T : Tab, T = ⟨(m : Int), to, fo, next, E.map Lv.lt ++ (c :: C ++ W).map Lv.wt, P, nw, last⟩ := ⟨_, rfl⟩
    have hmk : marked T (c.i : Int) = ⟨(m : Int), to, fo, next, (E ++ [c']).map Lv.lt ++ (C ++ W).map Lv.wt, P ++ [c'.le to fo], nw, last + 1⟩ := by
      unfold marked
      rw [hT]
      simp only
      have e1 : mark (c.i : Int) (last + 1) (E.map Lv.lt ++ (c :: C ++ W).map Lv.wt) = (E ++ [c']).map Lv.lt ++ (C ++ W).map Lv.wt := by
        rw [hL]
        have := mark_split (A := E.map Lv.lt) (e := c.wt) (B := (C ++ W).map Lv.wt) (t := last + 1) hno
        rw [show (c.i : Int) = c.wt.n from rfl, this, hc']
        simp [Lv.wt, Lv.lt]
      have e2 : (⟨last + 1, nw + fo, .int .i64 (c.i : Int), rfl⟩ : Ent) = c'.le to fo := by
        rw [hc', ← hca]
        rfl
      rw [e1, e2]
    have hrise : Rising (P ++ [c'.le to fo]) (last + 1) := by
      rw [hc']
      exact hP.rise.add hl0 _ _ _
    have hperm : (P ++ [c'.le to fo]).Perm ((E ++ [c']).map (Lv.le to fo) ++ W.map (Lv.we to)) := by
      rw [List.map_append, List.append_assoc]
      refine (hP.perm.append_right _).trans ?_
      rw [List.append_assoc]
      exact (List.perm_append_comm).append_left _
    have hlat : (latesL ((E ++ [c']).map Lv.lt ++ (C ++ W).map Lv.wt)).length = E.length + 1 := by
      rw [lates_app, lates_lt, lates_wt]
      simp
    have hids : (((E ++ [c']) ++ (C ++ W)).map Lv.i).Pairwise (· < ·) := by
      have h9 := hP.ids
      have e : ((E ++ [c']) ++ (C ++ W)).map Lv.i = (E ++ (c :: C ++ W)).map Lv.i := by simp [hc']
      rw [e]
      exact h9
    have het : ((E ++ [c']).map Lv.t).Pairwise (· < ·) := by
      rw [List.map_append, List.pairwise_append]
      refine ⟨hP.et, by simp, ?_⟩
      intro x hx y hy
      obtain ⟨z, hz, rfl⟩ := List.mem_map.1 hx
      have := hP.tle z hz
      simp [hc'] at hy
      subst hy
      show z.t < last + 1
      omega
    have hok : P2Ok T (c.i : Int) c.wt := by
      rw [hT]
      refine ⟨rfl, ?_, hP.rise, ?_, hfo.1, by show fo ≤ 100000; omega, hnw.1, by show nw ≤ _; omega, hl0, by show last ≤ _; omega, ?_, ?_⟩
      · intro A B hAB x hx
        simp only at hAB
        have hs := hP.ids
        rw [show (E ++ (c :: C ++ W)).map Lv.i = (E.map Lv.lt ++ (c :: C ++ W).map Lv.wt).map (fun e => e.n.toNat) by
          simp [Lv.lt, Lv.wt, Function.comp_def]] at hs
        rw [hAB, List.map_append, List.map_cons, List.pairwise_append, List.pairwise_cons] at hs
        have h9 := hs.2.1.1 _ (List.mem_map_of_mem (f := fun e : Ety => e.n.toNat) hx)
        have hxm : x ∈ E.map Lv.lt ++ (c :: C ++ W).map Lv.wt := by rw [hAB]; simp [hx]
        rcases List.mem_append.1 hxm with hx2 | hx2
        · obtain ⟨y, hy, rfl⟩ := List.mem_map.1 hx2
          have h8 := hP.ids
          rw [List.map_append, List.pairwise_append] at h8
          have h7 := h8.2.2 y.i (List.mem_map_of_mem hy) c.i (by simp)
          have h6 : (c.wt).n.toNat = c.i := rfl
          have h5 : (y.lt).n.toNat = y.i := rfl
          omega
        · obtain ⟨y, hy, rfl⟩ := List.mem_map.1 hx2
          rfl
      · intro x hx hxl
        rcases List.mem_append.1 hx with hx | hx
        · obtain ⟨y, hy, rfl⟩ := List.mem_map.1 hx
          refine ⟨y.le to fo, hP.perm.symm.subset (by simp; exact .inl ⟨y, hy, rfl⟩), rfl, hP.a0 y hy⟩
        · obtain ⟨y, hy, rfl⟩ := List.mem_map.1 hx
          cases hxl
      · simp
        omega
      · have := hP.perm.length_eq
        simp at this
        show (P.length + 2) * 24 ≤ _
        omega
    have hrun : ∀ e, findN T.L (c.i : Int) = some e → P2Ok T (c.i : Int) e := by
      intro e he
      rw [hT] at he
      simp only at he
      rw [hf] at he
      injection he with he
      subst he
      exact hok
    have hD' : ∀ d ∈ D, ∀ x ∈ (E ++ [c']) ++ (C ++ W), x.i ≠ d.i := by
      intro d hd x hx
      have h0 := hD d hd
      rcases List.mem_append.1 hx with hx | hx
      · rcases List.mem_append.1 hx with hx | hx
        · exact h0 x (by simp [hx])
        · simp at hx
          subst hx
          rw [hc']
          exact h0 c (by simp)
      · exact h0 x (by rw [List.cons_append]; exact List.mem_append_right _ (List.mem_cons_of_mem _ hx))
    have hca' : ∀ x ∈ C, x.a + to = nw := fun x hx => hP.ca x (by simp [hx])
    have hcw' : (C ++ W).length ≤ 9 := by simp; omega
    have ha0' : ∀ x ∈ E ++ [c'], 0 ≤ x.a + to + fo := by
      intro x hx
      rcases List.mem_append.1 hx with hx | hx
      · exact hP.a0 x hx
      · simp at hx
        subst hx
        rw [hc']
        show 0 ≤ c.a + to + fo
        omega
    have htle' : ∀ x ∈ E ++ [c'], x.t ≤ last + 1 := by
      intro x hx
      rcases List.mem_append.1 hx with hx | hx
      · have := hP.tle x hx; omega
      · simp at hx
        subst hx
        rw [hc']
        show last + 1 ≤ last + 1
        omega
    have hlen2 : last + ((c :: C).length : Int) = last + 1 + (C.length : Int) := by simp; omega
    rw [hlen2]
    rw [← hT]
    by_cases hfull : m < E.length + 1
    · cases E with
      | nil => simp at hfull; omega
      | cons o E' =>
        have hn2 : (((o :: E' ++ [c']).map Lv.lt ++ (C ++ W).map Lv.wt).map Ety.n).Nodup := ids_nodup hids
        have hrem : rem (o.i : Int) ((o :: E' ++ [c']).map Lv.lt ++ (C ++ W).map Lv.wt) = (E' ++ [c']).map Lv.lt ++ (C ++ W).map Lv.wt :=
          rem_split (A := []) (e := o.lt) (B := (E' ++ [c']).map Lv.lt ++ (C ++ W).map Lv.wt) hn2
        obtain ⟨P1, hP1⟩ : ∃ P1, P1 = (P ++ [c'.le to fo]).filter fun x => !decide (x.timer = o.t) := ⟨_, rfl⟩
        have hstep : pass2 (T, lt, gn) (c.i : Int) = ((⟨(m : Int), to, fo, next, (E' ++ [c']).map Lv.lt ++ (C ++ W).map Lv.wt, P1, nw, last + 1⟩ : Tab), lt ++ [req c.i], gn ++ [req o.i]) := by
          unfold pass2
          have hf2 : findN T.L (c.i : Int) = some c.wt := by rw [hT]; exact hf
          simp only [hf2]
          rw [hmk]
          simp only
          rw [hlat, if_pos (by omega)]
          have hfl : firstLate ((o :: E' ++ [c']).map Lv.lt ++ (C ++ W).map Lv.wt) = some o.lt := rfl
          rw [hfl]
          simp only
          unfold evict
          simp only
          rw [show o.lt.n = (o.i : Int) from rfl, hrem, hP1]
          rfl
        have hJ : P2 m to fo nw (E' ++ [c']) C W P1 (last + 1) := by
          refine ⟨?_, ?_, fun x hx => htle' x (by simp at hx ⊢; exact .inr hx), ?_, ?_, ?_, fun x hx => ha0' x (by simp at hx ⊢; exact .inr hx), hca', hcw'⟩
          · rw [List.cons_append, List.cons_append, List.map_cons, List.pairwise_cons] at hids
            exact hids.2
          · rw [List.cons_append, List.map_cons, List.pairwise_cons] at het
            exact het.2
          · rw [hP1]
            exact perm_del (e := o.le to fo) hrise (by simpa using hperm)
          · rw [hP1]; exact hrise.filter _
          · simp at hel ⊢; omega
        obtain ⟨X, Y, P', h1, h2, h3, h4, h5⟩ := ih (E' ++ [c']) W P1 (last + 1) (lt ++ [req c.i]) (gn ++ [req o.i]) hJ (fun d hd x hx => hD' d hd x (by
          rw [List.cons_append, List.cons_append]
          exact List.mem_cons_of_mem _ hx)) (by omega) (by omega)
        refine ⟨o :: X, Y, P', ?_, ⟨hrun, ?_⟩, ?_, ?_, h5⟩
        · rw [List.foldl_cons, hstep, h1]
          simp
        · rw [hstep]; exact h2
        · rw [List.cons_append, List.map_cons, h3]
          simp [hc', Lv.key]
        · right
          simp at h4 hel ⊢
          simp at hfull
          rcases h4 with ⟨h6, h7⟩ | h6
          · subst h7
            simp
            omega
          · omega
    · have hstep : pass2 (T, lt, gn) (c.i : Int) = ((⟨(m : Int), to, fo, next, (E ++ [c']).map Lv.lt ++ (C ++ W).map Lv.wt, P ++ [c'.le to fo], nw, last + 1⟩ : Tab), lt ++ [req c.i], gn) := by
        unfold pass2
        have hf2 : findN T.L (c.i : Int) = some c.wt := by rw [hT]; exact hf
        simp only [hf2]
        rw [hmk]
        simp only
        rw [hlat, if_neg (by omega)]
        rfl
      have hJ : P2 m to fo nw (E ++ [c']) C W (P ++ [c'.le to fo]) (last + 1) := ⟨hids, het, htle', hperm, hrise, by simp; omega, ha0', hca', hcw'⟩
      obtain ⟨X, Y, P', h1, h2, h3, h4, h5⟩ := ih (E ++ [c']) W (P ++ [c'.le to fo]) (last + 1) (lt ++ [req c.i]) gn hJ hD' (by omega) (by omega)
      refine ⟨X, Y, P', ?_, ⟨hrun, ?_⟩, ?_, ?_, h5⟩
      · rw [List.foldl_cons, hstep, h1]
        simp
      · rw [hstep]; exact h2
      · rw [h3]
        simp [hc', Lv.key]
      · simp at h4 ⊢
        rcases h4 with ⟨h6, h7⟩ | h6
        · left; exact ⟨by omega, h7⟩
        · right; omega
end
end Go.Proofs.Ytbfdebddoncfhaa
