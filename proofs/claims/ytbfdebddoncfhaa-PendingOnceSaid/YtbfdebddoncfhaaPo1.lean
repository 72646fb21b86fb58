import Derived.Test.YtbfdebddoncfhaaPd17
import Derived.Test.YtbfdebddoncfhaaPd13
/-! PendingOnce, the plain part: what a tick does where every request waits as long as every other. -/
namespace Go.Proofs.Ytbfdebddoncfhaa
open Go Go.RowKit Go.Proofs.Ytbfdebddoncfhaa.Sk
set_option linter.unusedVariables false
set_option linter.unusedSimpArgs false
set_option maxRecDepth 100000

/-- A request that lives: its number, the tick at which it came, its timer. -/
structure Lv where
  i : Nat
  a : Int
  t : Int
def Lv.lt (x : Lv) : Ety := ⟨x.i, req x.i, x.t, true⟩
def Lv.wt (x : Lv) : Ety := ⟨x.i, req x.i, x.t, false⟩
def Lv.le (to fo : Int) (x : Lv) : Ent := ⟨x.t, x.a + to + fo, .int .i64 x.i, rfl⟩
def Lv.we (to : Int) (x : Lv) : Ent := ⟨x.t, x.a + to, .int .i64 x.i, rfl⟩
def Lv.key (x : Lv) : Nat × Int := (x.i, x.a)
/-- One behind the other, out of two. -/
inductive Inter : List Int → List Lv → List Lv → Prop
  | nil : Inter [] [] []
  | l {ds D C} (d : Lv) (h : Inter ds D C) : Inter ((d.i : Int) :: ds) (d :: D) C
  | r {ds D C} (c : Lv) (h : Inter ds D C) : Inter ((c.i : Int) :: ds) D (c :: C)
theorem Inter.len {ds D C} (h : Inter ds D C) : ds.length = D.length + C.length := by
  induction h with
  | nil => rfl
  | l d h ih => simp [ih]; omega
  | r c h ih => simp [ih]; omega
theorem inter_of (to fo : Int) : ∀ (Q : List Ent) (D C : List Lv), Q.Perm (D.map (Lv.le to fo) ++ C.map (Lv.we to)) → (Q.map Ent.timer).Pairwise (· < ·) → (D.map Lv.t).Pairwise (· < ·) → (C.map Lv.t).Pairwise (· < ·) → ∃ ds, Q.map Ent.v = ints ds ∧ Inter ds D C
  | [], D, C, hp, _, _, _ => by
    have := hp.length_eq
    simp at this
    have h1 : D = [] := List.eq_nil_of_length_eq_zero (by omega)
    have h2 : C = [] := List.eq_nil_of_length_eq_zero (by omega)
    subst h1 h2
    exact ⟨[], rfl, .nil⟩
  | q :: Q, D, C, hp, hq, hD, hC => by
    have hm : q ∈ D.map (Lv.le to fo) ++ C.map (Lv.we to) := hp.subset (by simp)
    rw [List.map_cons, List.pairwise_cons] at hq
    rcases List.mem_append.1 hm with hm | hm
    · obtain ⟨d, hd, hdq⟩ := List.mem_map.1 hm
      cases D with
      | nil => cases hd
      | cons d' D' =>
        rw [List.map_cons, List.pairwise_cons] at hD
        have he : d = d' := by
          rcases List.mem_cons.1 hd with h | h
          · exact h
          · have h1 := hD.1 d.t (List.mem_map_of_mem h)
            have h2 : Lv.le to fo d' ∈ q :: Q := hp.symm.subset (by simp)
            rcases List.mem_cons.1 h2 with h3 | h3
            · have h4 : d'.t = q.timer := congrArg Ent.timer h3
              have h5 : d.t = q.timer := congrArg Ent.timer hdq
              omega
            · have h4 := hq.1 _ (List.mem_map_of_mem h3)
              have h5 : d.t = q.timer := congrArg Ent.timer hdq
              have h6 : (Lv.le to fo d').timer = d'.t := rfl
              omega
        subst he
        have hp2 : Q.Perm (D'.map (Lv.le to fo) ++ C.map (Lv.we to)) := by
          have : (q :: Q).Perm (q :: (D'.map (Lv.le to fo) ++ C.map (Lv.we to))) := by rw [← hdq] at hp ⊢; exact hp
          exact this.cons_inv
        obtain ⟨ds, h1, h2⟩ := inter_of to fo Q D' C hp2 hq.2 hD.2 hC
        refine ⟨d.i :: ds, ?_, .l d h2⟩
        rw [List.map_cons, h1, ← hdq]
        rfl
    · obtain ⟨c, hc, hcq⟩ := List.mem_map.1 hm
      cases C with
      | nil => cases hc
      | cons c' C' =>
        rw [List.map_cons, List.pairwise_cons] at hC
        have he : c = c' := by
          rcases List.mem_cons.1 hc with h | h
          · exact h
          · have h1 := hC.1 c.t (List.mem_map_of_mem h)
            have h2 : Lv.we to c' ∈ q :: Q := hp.symm.subset (by simp)
            rcases List.mem_cons.1 h2 with h3 | h3
            · have h4 : c'.t = q.timer := congrArg Ent.timer h3
              have h5 : c.t = q.timer := congrArg Ent.timer hcq
              omega
            · have h4 := hq.1 _ (List.mem_map_of_mem h3)
              have h5 : c.t = q.timer := congrArg Ent.timer hcq
              have h6 : (Lv.we to c').timer = c'.t := rfl
              omega
        subst he
        have hp2 : Q.Perm (D.map (Lv.le to fo) ++ C'.map (Lv.we to)) := by
          have : (q :: Q).Perm (q :: (D.map (Lv.le to fo) ++ C'.map (Lv.we to))) := by
            rw [← hcq] at hp ⊢
            exact hp.trans List.perm_middle
          exact this.cons_inv
        obtain ⟨ds, h1, h2⟩ := inter_of to fo Q D C' hp2 hq.2 hD hC.2
        refine ⟨c.i :: ds, ?_, .r c h2⟩
        rw [List.map_cons, h1, ← hcq]
        rfl
theorem findN_mem {L : List Ety} {e : Ety} (hn : (L.map Ety.n).Nodup) (he : e ∈ L) : findN L e.n = some e := by
  cases hf : findN L e.n with
  | none => exact absurd rfl (findN_none hf e he)
  | some x =>
    obtain ⟨h1, A, B, h2⟩ := findN_some hf
    have : x ∈ L := by rw [h2]; simp
    rw [inj_nodup hn this he h1]
theorem pass1_fold {ds : List Int} {D C : List Lv} (h : Inter ds D C) : ∀ (R : List Ety) (T : Tab) (gs : List Pnd), T.L = D.map Lv.lt ++ R → ((D.map Lv.lt ++ R).map Ety.n).Nodup → (∀ c ∈ C, ∃ e ∈ R, e.n = c.i ∧ e.late = false) →
    ds.foldl pass1 (T, gs) = ({ T with L := R }, gs ++ D.map fun x => req x.i) ∧ Run1 (T, gs) ds := by
  induction h with
  | nil =>
    intro R T gs hL hn hc
    refine ⟨?_, trivial⟩
    simp at hL
    simp [← hL]
  | @l ds D C d h ih =>
    intro R T gs hL hn hc
    have hf : findN T.L (d.i : Int) = some d.lt := by
      rw [hL]
      exact findN_mem (e := d.lt) hn (by simp)
    have hr : rem (d.i : Int) T.L = D.map Lv.lt ++ R := by
      rw [hL]
      exact rem_split (A := []) (e := d.lt) (B := D.map Lv.lt ++ R) hn
    have hp : pass1 (T, gs) (d.i : Int) = ({ T with L := D.map Lv.lt ++ R }, gs ++ [req d.i]) := by
      unfold pass1
      simp only [hf]
      rw [if_pos (show d.lt.late = true from rfl), hr]
      rfl
    have hn2 : ((D.map Lv.lt ++ R).map Ety.n).Nodup := by
      rw [List.map_cons, List.cons_append, List.map_cons, List.nodup_cons] at hn
      exact hn.2
    obtain ⟨h1, h2⟩ := ih R { T with L := D.map Lv.lt ++ R } (gs ++ [req d.i]) rfl hn2 hc
    refine ⟨?_, ?_, ?_⟩
    · rw [List.foldl_cons, hp, h1]
      simp
    · simp only [hf, Option.isSome_some]
    · rw [hp]; exact h2
  | @r ds D C c h ih =>
    intro R T gs hL hn hc
    obtain ⟨e, he, hen, hel⟩ := hc c (by simp)
    have hf : findN T.L (c.i : Int) = some e := by
      rw [hL, ← hen]
      exact findN_mem hn (by simp [he])
    have hp : pass1 (T, gs) (c.i : Int) = (T, gs) := by
      unfold pass1
      simp only [hf, hel]
      rw [if_neg (by decide)]
    obtain ⟨h1, h2⟩ := ih R T gs hL hn (fun c' hc' => hc c' (by simp [hc']))
    refine ⟨?_, ?_, ?_⟩
    · rw [List.foldl_cons, hp, h1]
    · simp only [hf, Option.isSome_some]
    · rw [hp]; exact h2
theorem lates_lt (E : List Lv) : latesL (E.map Lv.lt) = E.map fun x => (x.i : Int) := by
  unfold latesL
  rw [List.filter_eq_self.2 (by intro e he; obtain ⟨x, _, rfl⟩ := List.mem_map.1 he; rfl), List.map_map]
  rfl
theorem lates_wt (E : List Lv) : latesL (E.map Lv.wt) = [] := by
  unfold latesL
  rw [List.filter_eq_nil_iff.2 (by intro e he; obtain ⟨x, _, rfl⟩ := List.mem_map.1 he; simp [Lv.wt])]
  rfl
theorem waits_lt (E : List Lv) : waitsL (E.map Lv.lt) = [] := by
  unfold waitsL
  rw [List.filter_eq_nil_iff.2 (by intro e he; obtain ⟨x, _, rfl⟩ := List.mem_map.1 he; simp [Lv.lt])]
  rfl
theorem waits_wt (E : List Lv) : waitsL (E.map Lv.wt) = E.map fun x => (x.i : Int) := by
  unfold waitsL
  rw [List.filter_eq_self.2 (by intro e he; obtain ⟨x, _, rfl⟩ := List.mem_map.1 he; rfl), List.map_map]
  rfl
theorem ids_n (E W : List Lv) : ((E.map Lv.lt ++ W.map Lv.wt).map Ety.n) = (E ++ W).map fun x => (x.i : Int) := by
  rw [List.map_append, List.map_map, List.map_map, List.map_append]
  rfl
theorem ids_nodup {E W : List Lv} (h : ((E ++ W).map Lv.i).Pairwise (· < ·)) : ((E.map Lv.lt ++ W.map Lv.wt).map Ety.n).Nodup := by
  rw [ids_n]
  rw [List.pairwise_map] at h
  unfold List.Nodup
  rw [List.pairwise_map]
  exact h.imp fun h => by omega
end Go.Proofs.Ytbfdebddoncfhaa
