import Derived.Test.YtbfdebddoncfhaaPo2
/-! PendingOnce, the plain part: the table's state, and what becomes of it. -/
namespace Go.Proofs.Ytbfdebddoncfhaa
open Go Go.RowKit Go.Proofs.Ytbfdebddoncfhaa.Sk
set_option linter.unusedVariables false
set_option linter.unusedSimpArgs false
set_option maxRecDepth 100000

structure Cst (m : Nat) (to fo : Int) : Prop where
  m : 1 ≤ m ∧ m ≤ 9
  to : 1 ≤ to ∧ to ≤ 15
  fo : 1 ≤ fo ∧ fo ≤ 15
def tabS (m : Nat) (to fo : Int) (next : Nat) (LA WA : List Lv) (P : List Ent) (now last : Int) : Tab := ⟨(m : Int), to, fo, (next : Int), LA.map Lv.lt ++ WA.map Lv.wt, P, now, last⟩
structure Ok (m : Nat) (to fo : Int) (next : Nat) (LA WA : List Lv) (P : List Ent) (now last : Int) : Prop where
  ids : ((LA ++ WA).map Lv.i).Pairwise (· < ·)
  as_ : ((LA ++ WA).map Lv.a).Pairwise (· ≤ ·)
  nx : ∀ x ∈ LA ++ WA, x.i < next
  tl : (LA.map Lv.t).Pairwise (· < ·)
  tw : (WA.map Lv.t).Pairwise (· < ·)
  perm : P.Perm (LA.map (Lv.le to fo) ++ WA.map (Lv.we to))
  rise : Rising P last
  late : ∀ x ∈ LA, 0 ≤ x.a ∧ x.a + to ≤ now ∧ now < x.a + to + fo
  wait : ∀ x ∈ WA, 0 ≤ x.a ∧ x.a ≤ now ∧ now < x.a + to
  ln : LA.length ≤ m
  wn : WA.length ≤ m
  l0 : 0 ≤ last
  l1 : last ≤ next + 9 * now
  n0 : 0 ≤ now
theorem split_eq (v : Int) : ∀ l : List Lv, (l.map Lv.a).Pairwise (· ≤ ·) → (∀ x ∈ l, v ≤ x.a) → ∃ D E, l = D ++ E ∧ (∀ x ∈ D, x.a = v) ∧ ∀ x ∈ E, v < x.a
  | [], _, _ => ⟨[], [], rfl, by simp, by simp⟩
  | x :: l, hp, hv => by
    rw [List.map_cons, List.pairwise_cons] at hp
    by_cases h : x.a = v
    · obtain ⟨D, E, h1, h2, h3⟩ := split_eq v l hp.2 (fun y hy => hv y (by simp [hy]))
      refine ⟨x :: D, E, by rw [h1]; rfl, ?_, h3⟩
      intro y hy
      rcases List.mem_cons.1 hy with rfl | hy
      · exact h
      · exact h2 y hy
    · refine ⟨[], x :: l, rfl, by simp, ?_⟩
      intro y hy
      have h0 := hv x (by simp)
      rcases List.mem_cons.1 hy with rfl | hy
      · omega
      · have := hp.1 _ (List.mem_map_of_mem hy)
        omega
theorem key_mem {X Y : List Lv} (h : X.map Lv.key = Y.map Lv.key) {x : Lv} (hx : x ∈ X) : ∃ y ∈ Y, y.i = x.i ∧ y.a = x.a := by
  have : x.key ∈ Y.map Lv.key := h ▸ List.mem_map_of_mem hx
  obtain ⟨y, hy, he⟩ := List.mem_map.1 this
  exact ⟨y, hy, congrArg Prod.fst he, congrArg Prod.snd he⟩
theorem key_req {X Y : List Lv} (h : X.map Lv.key = Y.map Lv.key) : (X.map fun x => req x.i) = Y.map fun x => req x.i := by
  have := congrArg (fun l : List (Nat × Int) => l.map fun k => req k.1) h
  simpa [Lv.key, Function.comp_def] using this
theorem key_a {X Y : List Lv} (h : X.map Lv.key = Y.map Lv.key) : X.map Lv.a = Y.map Lv.a := by
  have := congrArg (fun l : List (Nat × Int) => l.map fun k => k.2) h
  simpa [Lv.key, Function.comp_def] using this
theorem key_i {X Y : List Lv} (h : X.map Lv.key = Y.map Lv.key) : X.map Lv.i = Y.map Lv.i := by
  have := congrArg (fun l : List (Nat × Int) => l.map fun k => k.1) h
  simpa [Lv.key, Function.comp_def] using this
theorem key_len {X Y : List Lv} (h : X.map Lv.key = Y.map Lv.key) : X.length = Y.length := by
  have := congrArg List.length h
  simpa using this
section
variable {m next : Nat} {to fo now last : Int} {LA WA : List Lv} {P : List Ent}
/-- What a tick does to the table, and what comes out of it. -/
structure Ticked (m : Nat) (to fo : Int) (next : Nat) (LA WA : List Lv) (P : List Ent) (now last : Int) (ds : List Int) (g : Nat) (C W2 LB : List Lv) (P' : List Ent) (last' : Int) : Prop where
  tk : Tk (tabS m to fo next LA WA P now last) ds (tabS m to fo next LB W2 P' (now + 1) last', C.map (fun x => req x.i), (LA.take g).map fun x => req x.i)
  wa : WA = C ++ W2
  ce : ∀ x ∈ C, x.a + to = now + 1
  wf : ∀ x ∈ W2, now + 1 < x.a + to
  gl : g ≤ LA.length
  lb : LB.map Lv.key = (LA.drop g ++ C).map Lv.key
  why : ∀ j x, LA[j]? = some x → j < g → x.a + to + fo = now + 1 ∨ m + j < LA.length + C.length
  ok : Ok m to fo next LB W2 P' (now + 1) last'
  dl : ds.length ≤ 18
theorem Ok.tick (h : Ok m to fo next LA WA P now last) (hc : Cst m to fo) (hn : now ≤ 100000) (hx : next ≤ 1000) : ∃ ds g C W2 LB P' last', Ticked m to fo next LA WA P now last ds g C W2 LB P' last' := by
  have hm := hc.m
  have hto := hc.to
  have hfo := hc.fo
  have ha := h.as_
  rw [List.map_append, List.pairwise_append] at ha
  obtain ⟨D, E, hDE, hD, hE⟩ := split_eq (now + 1 - to - fo) LA ha.1 (fun x hx => by have := h.late x hx; omega)
  obtain ⟨C, W, hCW, hC, hW⟩ := split_eq (now + 1 - to) WA ha.2.1 (fun x hx => by have := h.wait x hx; omega)
  have hn0 := h.n0
  have hl0 := h.l0
  have hl1 := h.l1
  have hln := h.ln
  have hwn := h.wn
  subst hDE hCW
  simp only [List.length_append] at hln hwn
  -- those that are due, and the others
  have f1 : (D.map (Lv.le to fo)).filter (fun e => decide (e.at_ = now + 1)) = D.map (Lv.le to fo) := List.filter_eq_self.2 fun e he => by
    obtain ⟨x, hx, rfl⟩ := List.mem_map.1 he
    have := hD x hx
    exact decide_eq_true (show x.a + to + fo = now + 1 by omega)
  have f2 : (E.map (Lv.le to fo)).filter (fun e => decide (e.at_ = now + 1)) = [] := List.filter_eq_nil_iff.2 fun e he => by
    obtain ⟨x, hx, rfl⟩ := List.mem_map.1 he
    have := hE x hx
    simp only [decide_eq_true_eq]
    show ¬ (x.a + to + fo = now + 1)
    omega
  have f3 : (C.map (Lv.we to)).filter (fun e => decide (e.at_ = now + 1)) = C.map (Lv.we to) := List.filter_eq_self.2 fun e he => by
    obtain ⟨x, hx, rfl⟩ := List.mem_map.1 he
    have := hC x hx
    exact decide_eq_true (show x.a + to = now + 1 by omega)
  have f4 : (W.map (Lv.we to)).filter (fun e => decide (e.at_ = now + 1)) = [] := List.filter_eq_nil_iff.2 fun e he => by
    obtain ⟨x, hx, rfl⟩ := List.mem_map.1 he
    have := hW x hx
    simp only [decide_eq_true_eq]
    show ¬ (x.a + to = now + 1)
    omega
  have k1 : (D.map (Lv.le to fo)).filter (fun e => !decide (e.at_ = now + 1)) = [] := List.filter_eq_nil_iff.2 fun e he => by
    obtain ⟨x, hx, rfl⟩ := List.mem_map.1 he
    have := hD x hx
    simp only [Bool.not_eq_true', decide_eq_false_iff_not, Decidable.not_not]
    show x.a + to + fo = now + 1
    omega
  have k2 : (E.map (Lv.le to fo)).filter (fun e => !decide (e.at_ = now + 1)) = E.map (Lv.le to fo) := List.filter_eq_self.2 fun e he => by
    obtain ⟨x, hx, rfl⟩ := List.mem_map.1 he
    have := hE x hx
    simp only [Bool.not_eq_true', decide_eq_false_iff_not]
    show ¬ (x.a + to + fo = now + 1)
    omega
  have k3 : (C.map (Lv.we to)).filter (fun e => !decide (e.at_ = now + 1)) = [] := List.filter_eq_nil_iff.2 fun e he => by
    obtain ⟨x, hx, rfl⟩ := List.mem_map.1 he
    have := hC x hx
    simp only [Bool.not_eq_true', decide_eq_false_iff_not, Decidable.not_not]
    show x.a + to = now + 1
    omega
  have k4 : (W.map (Lv.we to)).filter (fun e => !decide (e.at_ = now + 1)) = W.map (Lv.we to) := List.filter_eq_self.2 fun e he => by
    obtain ⟨x, hx, rfl⟩ := List.mem_map.1 he
    have := hW x hx
    simp only [Bool.not_eq_true', decide_eq_false_iff_not]
    show ¬ (x.a + to = now + 1)
    omega
  have hQ : (P.filter fun e => decide (e.at_ = now + 1)).Perm (D.map (Lv.le to fo) ++ C.map (Lv.we to)) := by
    have := h.perm.filter (fun e => decide (e.at_ = now + 1))
    rw [List.map_append, List.map_append, List.filter_append, List.filter_append, List.filter_append, f1, f2, f3, f4, List.append_nil, List.append_nil] at this
    exact this
  have hK : (P.filter fun e => !decide (e.at_ = now + 1)).Perm (E.map (Lv.le to fo) ++ W.map (Lv.we to)) := by
    have := h.perm.filter (fun e => !decide (e.at_ = now + 1))
    rw [List.map_append, List.map_append, List.filter_append, List.filter_append, List.filter_append, k1, k2, k3, k4, List.nil_append, List.nil_append] at this
    exact this
  have htl := h.tl
  have htw := h.tw
  rw [List.map_append, List.pairwise_append] at htl htw
  obtain ⟨ds, hds, hI⟩ := inter_of to fo _ D C hQ (h.rise.filter _).1 htl.1 htw.1
  have hids := h.ids
  have hnod : (((D.map Lv.lt) ++ (E.map Lv.lt ++ (C ++ W).map Lv.wt)).map Ety.n).Nodup := by
    have := ids_nodup (E := D ++ E) (W := C ++ W) hids
    rwa [List.map_append (f := Lv.lt), List.append_assoc] at this
  obtain ⟨p1, p2⟩ := pass1_fold hI (E.map Lv.lt ++ (C ++ W).map Lv.wt) (ticked (tabS m to fo next (D ++ E) (C ++ W) P now last)) [] (by
    unfold ticked tabS
    simp) hnod (fun c hc => ⟨c.wt, by simp; exact .inr (.inl ⟨c, hc, rfl⟩), rfl, rfl⟩)
  have hJ : P2 m to fo (now + 1) E C W (P.filter fun e => !decide (e.at_ = now + 1)) last := by
    refine ⟨?_, htl.2.1, ?_, hK, h.rise.filter _, by omega, ?_, ?_, by simp; omega⟩
    · rw [List.append_assoc, List.map_append, List.pairwise_append] at hids
      exact hids.2.1
    · intro x hx
      have : x.le to fo ∈ P := h.perm.symm.subset (List.mem_append_left _ (List.mem_map_of_mem (by simp [hx])))
      exact (h.rise.2 _ this).2
    · intro x hx
      have := h.late x (by simp [hx])
      omega
    · intro c hc
      have := hC c hc
      omega
  obtain ⟨X, Y, P', q1, q2, q3, q4, q5⟩ := pass2_fold (next := next) hm hfo hto.1 (nw := now + 1) ⟨by omega, by omega⟩ hI E W _ last [] (D.map fun x => req x.i) hJ (fun d hd x hx => by
    rw [List.append_assoc, List.map_append, List.pairwise_append] at hids
    have := hids.2.2 d.i (List.mem_map_of_mem hd) x.i (List.mem_map_of_mem hx)
    omega) hl0 (by omega)
  have hXl : X.length ≤ E.length := by
    rcases q4 with ⟨_, h9⟩ | h9
    · rw [h9]; simp
    · omega
  have hXk : X.map Lv.key = (E.take X.length).map Lv.key := by
    have := congrArg (fun l => l.take X.length) q3
    simp only [List.map_append] at this
    rw [List.take_append_of_le_length (by simp), List.take_append_of_le_length (by simpa using hXl), List.take_of_length_le (by simp)] at this
    rw [this, List.map_take]
  have hYk : Y.map Lv.key = (E.drop X.length ++ C).map Lv.key := by
    have := congrArg (fun l => l.drop X.length) q3
    simp only [List.map_append] at this
    rw [List.drop_append_of_le_length (by simp), List.drop_append_of_le_length (by simpa using hXl), List.drop_of_length_le (by simp)] at this
    rw [List.map_append, List.map_drop, ← this]
    simp
  have e1 : (D ++ E).take (D.length + X.length) = D ++ E.take X.length := by
    rw [List.take_append, List.take_of_length_le (by omega)]
    simp
  have e2 : (D ++ E).drop (D.length + X.length) = E.drop X.length := by
    rw [List.drop_append, List.drop_of_length_le (by omega)]
    simp
  have hCn : 0 ≤ (C.length : Int) := by omega
  have hin : ∀ x ∈ Y, ∃ y ∈ (D ++ E) ++ (C ++ W), y.i = x.i ∧ y.a = x.a ∧ (y ∈ E ∨ y ∈ C) := by
    intro x hx
    obtain ⟨y, hy, h1, h2⟩ := key_mem hYk hx
    rcases List.mem_append.1 hy with hy | hy
    · have := List.mem_of_mem_drop hy
      exact ⟨y, by simp [this], h1, h2, .inl this⟩
    · exact ⟨y, by simp [hy], h1, h2, .inr hy⟩
  refine ⟨ds, D.length + X.length, C, W, Y, P', last + C.length, ⟨⟨hds, p2, ?_, ?_⟩, rfl, fun x hx => by have := hC x hx; omega, fun x hx => by have := hW x hx; omega, by simp; omega, by rw [e2]; exact hYk, ?_, ?_, by rw [hI.len]; omega⟩⟩
  · rw [p1]
    exact q2
  · unfold tickR
    rw [p1]
    show ds.foldl pass2 _ = _
    have e3 : ((D ++ E.take X.length).map fun x => req x.i) = (D.map fun x => req x.i) ++ X.map fun x => req x.i := by rw [List.map_append, key_req hXk]
    rw [e1, e3]
    exact q1
  · intro j x hj hjg
    by_cases hjD : j < D.length
    · rw [List.getElem?_append_left hjD] at hj
      have := hD x (List.mem_of_getElem? hj)
      exact .inl (by omega)
    · right
      rcases q4 with ⟨_, h9⟩ | h9
      · rw [h9] at hjg; simp at hjg; omega
      · simp; omega
  · have hYl := key_len hYk
    simp at hYl
    refine ⟨?_, ?_, ?_, q5.et, htw.2.1, q5.perm, q5.rise, ?_, ?_, q5.el, by omega, by omega, by omega, by omega⟩
    · have := q5.ids
      simpa using this
    · rw [List.map_append, key_a hYk, ← List.map_append]
      refine List.Pairwise.sublist ?_ h.as_
      refine List.Sublist.map _ ?_
      rw [List.append_assoc, List.append_assoc]
      exact ((List.drop_sublist _ E).append (List.Sublist.refl _)).trans (List.sublist_append_right D _)
    · intro x hx
      rcases List.mem_append.1 hx with hx | hx
      · obtain ⟨y, hy, h1, _⟩ := hin x hx
        rw [← h1]
        exact h.nx y hy
      · exact h.nx x (by simp [hx])
    · intro x hx
      obtain ⟨y, hy, h1, h2, h3⟩ := hin x hx
      rw [← h2]
      rcases h3 with h3 | h3
      · have g1 := h.late y (by simp [h3])
        have g2 := hE y h3
        omega
      · have g1 := h.wait y (by simp [h3])
        have g2 := hC y h3
        omega
    · intro x hx
      have g1 := h.wait x (by simp [hx])
      have g2 := hW x hx
      omega
theorem Ok.start (hc : Cst m to fo) : Ok m to fo 0 [] [] [] 0 0 := ⟨by simp, by simp, by simp, by simp, by simp, by simp, ⟨by simp, by simp⟩, by simp, by simp, by simp, by simp, by omega, by omega, by omega⟩
theorem Ok.add (h : Ok m to fo next LA WA P now last) (hc : Cst m to fo) (hw : WA.length < m) : (tabS m to fo next LA WA P now last).add (req next) = tabS m to fo (next + 1) LA (WA ++ [⟨next, now, last + 1⟩]) (P ++ [Lv.we to ⟨next, now, last + 1⟩]) now (last + 1) ∧
    Ok m to fo (next + 1) LA (WA ++ [⟨next, now, last + 1⟩]) (P ++ [Lv.we to ⟨next, now, last + 1⟩]) now (last + 1) := by
  have hto := hc.to
  have hn0 := h.n0
  have hl0 := h.l0
  have hl1 := h.l1
  refine ⟨?_, ?_⟩
  · unfold Tab.add tabS Lv.we
    simp [Lv.wt]
  · refine ⟨?_, ?_, ?_, h.tl, ?_, ?_, h.rise.add h.l0 _ _ _, h.late, ?_, h.ln, by simp; omega, by omega, by omega, hn0⟩
    · rw [← List.append_assoc, List.map_append, List.pairwise_append]
      refine ⟨h.ids, by simp, fun x hx y hy => ?_⟩
      obtain ⟨z, hz, rfl⟩ := List.mem_map.1 hx
      simp at hy
      subst hy
      exact h.nx z hz
    · rw [← List.append_assoc, List.map_append, List.pairwise_append]
      refine ⟨h.as_, by simp, fun x hx y hy => ?_⟩
      obtain ⟨z, hz, rfl⟩ := List.mem_map.1 hx
      simp at hy
      subst hy
      rcases List.mem_append.1 hz with hz | hz
      · have := h.late z hz; omega
      · have := h.wait z hz; omega
    · intro x hx
      rw [← List.append_assoc] at hx
      rcases List.mem_append.1 hx with hx | hx
      · have := h.nx x hx; omega
      · simp at hx; subst hx; show next < next + 1; omega
    · rw [List.map_append, List.pairwise_append]
      refine ⟨h.tw, by simp, fun x hx y hy => ?_⟩
      obtain ⟨z, hz, rfl⟩ := List.mem_map.1 hx
      simp at hy
      subst hy
      have : z.we to ∈ P := h.perm.symm.subset (by simp; exact .inr ⟨z, hz, rfl⟩)
      have := (h.rise.2 _ this).2
      have e : (z.we to).timer = z.t := rfl
      omega
    · rw [List.map_append, ← List.append_assoc]
      exact h.perm.append_right _
    · intro x hx
      rcases List.mem_append.1 hx with hx | hx
      · exact h.wait x hx
      · simp at hx; subst hx; exact ⟨hn0, by show now ≤ now; omega, by show now < now + to; omega⟩
theorem Ok.dropL {A B : List Lv} {x : Lv} (h : Ok m to fo next (A ++ x :: B) WA P now last) : Ok m to fo next (A ++ B) WA (P.filter fun e => !decide (e.timer = x.t)) now last := by
  have hs : (A ++ B).Sublist (A ++ x :: B) := (List.Sublist.refl A).append (List.sublist_cons_self x B)
  have hs2 : ((A ++ B) ++ WA).Sublist ((A ++ x :: B) ++ WA) := hs.append (List.Sublist.refl _)
  refine ⟨h.ids.sublist (hs2.map _), h.as_.sublist (hs2.map _), fun y hy => h.nx y (hs2.subset hy), h.tl.sublist (hs.map _), h.tw, ?_, h.rise.filter _, fun y hy => h.late y (hs.subset hy), h.wait, by have := hs.length_le; have := h.ln; omega, h.wn, h.l0, h.l1, h.n0⟩
  refine perm_del (e := x.le to fo) h.rise (h.perm.trans ?_)
  rw [List.map_append, List.map_cons, List.append_assoc, List.map_append, List.append_assoc]
  exact List.perm_middle
theorem Ok.dropW {A B : List Lv} {x : Lv} (h : Ok m to fo next LA (A ++ x :: B) P now last) : Ok m to fo next LA (A ++ B) (P.filter fun e => !decide (e.timer = x.t)) now last := by
  have hs : (A ++ B).Sublist (A ++ x :: B) := (List.Sublist.refl A).append (List.sublist_cons_self x B)
  have hs2 : (LA ++ (A ++ B)).Sublist (LA ++ (A ++ x :: B)) := (List.Sublist.refl _).append hs
  refine ⟨h.ids.sublist (hs2.map _), h.as_.sublist (hs2.map _), fun y hy => h.nx y (hs2.subset hy), h.tl, h.tw.sublist (hs.map _), ?_, h.rise.filter _, h.late, fun y hy => h.wait y (hs.subset hy), h.ln, by have := hs.length_le; have := h.wn; omega, h.l0, h.l1, h.n0⟩
  refine perm_del (e := x.we to) h.rise (h.perm.trans ?_)
  rw [List.map_append, List.map_cons, List.map_append, ← List.append_assoc, ← List.append_assoc]
  exact List.perm_middle
end
end Go.Proofs.Ytbfdebddoncfhaa
