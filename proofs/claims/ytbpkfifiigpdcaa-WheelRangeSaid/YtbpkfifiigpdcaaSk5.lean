import Derived.Test.YtbpkfifiigpdcaaSk4
/-! Sk, part five: maps, told as lists of pairs in the order in which the keys came. -/
namespace Go.Proofs.Ytbpkfifiigpdcaa.Sk
open Go Go.RowKit
set_option linter.unusedVariables false
set_option linter.unusedSimpArgs false

theorem map_eraseIdx {α β : Type} (f : α → β) : ∀ (l : List α) (i : Nat), (l.eraseIdx i).map f = (l.map f).eraseIdx i
  | [], _ => by simp
  | a :: r, 0 => rfl
  | a :: r, i + 1 => by simp [map_eraseIdx f r i]
theorem ba_beq (a b : ByteArray) : (a == b) = decide (a = b) := by
  cases a with
  | mk d =>
    cases b with
    | mk e =>
      show (d == e) = _
      by_cases h : d = e
      · subst h; simp
      · have hne : ¬ ByteArray.mk d = ByteArray.mk e := fun x => h (by injection x)
        simp [h, hne]
section lists
variable {K V : Type} [DecidableEq K]
def mGet (m : List (K × V)) (x : K) : Option V := (m.find? (fun p => decide (p.1 = x))).map (·.2)
def mPut (m : List (K × V)) (x : K) (v : V) : List (K × V) := if m.any (fun p => decide (p.1 = x)) then m.map (fun p => if p.1 = x then (x, v) else p) else m ++ [(x, v)]
def mDel (m : List (K × V)) (x : K) : List (K × V) := m.filter (fun p => !decide (p.1 = x))
/-- Where the key stands. -/
def mIdx : List (K × V) → K → Nat → Option Nat
  | [], _, _ => none
  | p :: r, x, i => if p.1 = x then some i else mIdx r x (i + 1)

theorem mIdx_none {x : K} : ∀ {m : List (K × V)} {i : Nat}, mIdx m x i = none → (∀ p ∈ m, p.1 ≠ x)
  | [], _, _ => fun p hp => by cases hp
  | p :: r, i, h => by
    simp only [mIdx] at h
    split at h
    · cases h
    · rename_i hne
      intro q hq
      rcases List.mem_cons.1 hq with rfl | hq
      · exact hne
      · exact mIdx_none h q hq
theorem mIdx_some {x : K} : ∀ {m : List (K × V)} {i j : Nat}, mIdx m x i = some j → i ≤ j ∧ ∃ v, m[j - i]? = some (x, v) ∧ ∀ k, k < j - i → ∀ p, m[k]? = some p → p.1 ≠ x
  | [], i, j, h => by simp [mIdx] at h
  | p :: r, i, j, h => by
    simp only [mIdx] at h
    split at h
    · rename_i he
      injection h with h
      subst h
      refine ⟨Nat.le_refl _, p.2, by simp [← he], fun k hk => by omega⟩
    · rename_i hne
      obtain ⟨h1, v, h2, h3⟩ := mIdx_some h
      refine ⟨by omega, v, ?_, fun k hk q hq => ?_⟩
      · rw [show j - i = (j - (i + 1)) + 1 by omega]
        simpa using h2
      · cases k with
        | zero => simp at hq; subst hq; exact hne
        | succ k => exact h3 k (by omega) q (by simpa using hq)
theorem mGet_none {m : List (K × V)} {x : K} (h : ∀ p ∈ m, p.1 ≠ x) : mGet m x = none := by
  unfold mGet
  rw [List.find?_eq_none.2 (fun p hp => by simpa using h p hp)]
  rfl
theorem mGet_at {m : List (K × V)} {x : K} {j : Nat} {v : V} (h : m[j]? = some (x, v)) (hb : ∀ k, k < j → ∀ p, m[k]? = some p → p.1 ≠ x) : mGet m x = some v := by
  induction m generalizing j with
  | nil => simp at h
  | cons p r ih =>
    cases j with
    | zero => simp at h; subst h; simp [mGet]
    | succ j =>
      have hp : p.1 ≠ x := hb 0 (by omega) p rfl
      have := ih (j := j) (by simpa using h) (fun k hk q hq => hb (k + 1) (by omega) q (by simpa using hq))
      unfold mGet at this ⊢
      simp [List.find?_cons, hp, this]
end lists

/-- Block b is a map; its entries, in the order in which the keys came, are m. -/
def mapC {K V : Type} (κ : K → Value) (ν : V → Value) (b : Nat) (m : List (K × V)) : Chunk := .pr fun f => (m.map (·.1)).Nodup ∧
  ∃ es clock, es.toList.map (fun e => (e.key, e.val)) = m.map (fun p => (κ p.1, ν p.2)) ∧ (es.toList.map (·.born)).Nodup ∧ (∀ e ∈ es.toList, e.born < clock) ∧ (Chunk.obj b (.map es clock)).holds f

/-- Keys of type kt: what the model's look-up makes of them. -/
structure Keys {K : Type} [DecidableEq K] (P : Program) (kt : TypeId) (κ : K → Value) : Prop where
  check : ∀ e x w, (Instr.checkKey e 10000 kt (κ x)).run P w = .ok () w
  find : ∀ x (es : List MapEntry) (ks : List K) w, es.map (·.key) = ks.map κ → (Instr.findKey kt (κ x) es).run P w = .ok ((mIdx (ks.map fun k => (k, ())) x 0).bind fun i => (es[i]?).map fun e => (i, e.val)) w
  bits : ∀ x, Instr.sameBits 10000 (κ x) (κ x) = true

section maps0
variable {K V : Type} {P : Program} {kt : TypeId} {κ : K → Value} {ν : V → Value} {w0 w : World} {C : List Chunk} {b : Nat} {m : List (K × V)}

theorem map_open (h : Sat w0 w (mapC κ ν b m :: C)) : (m.map (·.1)).Nodup ∧ ∃ es clock, es.toList.map (fun e => (e.key, e.val)) = m.map (fun p => (κ p.1, ν p.2)) ∧ (es.toList.map (·.born)).Nodup ∧ (∀ e ∈ es.toList, e.born < clock) ∧
    Sat w0 w (.obj b (.map es clock) :: C) := by
  obtain ⟨f, hf, hs⟩ := h.own
  obtain ⟨g1, k, hg, hk, ha, rfl⟩ := made_cons.1 hf
  obtain ⟨hn, es, clock, h1, h2, h3, h4⟩ := hg
  exact ⟨hn, es, clock, h1, h2, h3, h.os, h.tape, h.output, h.size, _, .cons h4 hk ha, hs⟩
theorem map_shut {es : Array MapEntry} {clock : Nat} (h : Sat w0 w (.obj b (.map es clock) :: C)) (hn : (m.map (·.1)).Nodup) (h1 : es.toList.map (fun e => (e.key, e.val)) = m.map (fun p => (κ p.1, ν p.2))) (h2 : (es.toList.map (·.born)).Nodup) (h3 : ∀ e ∈ es.toList, e.born < clock) :
    Sat w0 w (mapC κ ν b m :: C) := by
  obtain ⟨f, hf, hs⟩ := h.own
  obtain ⟨g1, k, hg, hk, ha, rfl⟩ := made_cons.1 hf
  exact ⟨h.os, h.tape, h.output, h.size, _, .cons ⟨hn, es, clock, h1, h2, h3, hg⟩ hk ha, hs⟩
theorem map_new (h : Sat w0 w C) : Sat w0 (w.alloc (.map #[] 0)) (mapC κ ν w.heap.size ([] : List (K × V)) :: C) := map_shut h.new (by simp) (by simp) (by simp) (by simp)

end maps0
section maps
variable {K V : Type} [DecidableEq K] {P : Program} {kt : TypeId} {κ : K → Value} {ν : V → Value} {w0 w : World} {C : List Chunk} {b : Nat} {m : List (K × V)}
theorem find_run (hK : Keys P kt κ) {es : Array MapEntry} (h1 : es.toList.map (fun e => (e.key, e.val)) = m.map (fun p => (κ p.1, ν p.2))) (x : K) (w : World) :
    (Instr.findKey kt (κ x) es.toList).run P w = .ok ((mIdx m x 0).bind fun i => (m[i]?).map fun p => (i, ν p.2)) w := by
  have hk : es.toList.map (·.key) = (m.map (·.1)).map κ := by
    have := congrArg (List.map Prod.fst) h1
    simpa [List.map_map, Function.comp_def] using this
  have hv : es.toList.map (·.val) = m.map (fun p => ν p.2) := by
    have := congrArg (List.map Prod.snd) h1
    simpa [List.map_map, Function.comp_def] using this
  rw [hK.find x es.toList (m.map (·.1)) w hk]
  have e1 : ∀ (l : List (K × V)) (i : Nat), mIdx ((l.map (·.1)).map fun k => (k, ())) x i = mIdx l x i := by
    intro l
    induction l with
    | nil => intro i; rfl
    | cons p r ih =>
      intro i
      simp only [List.map_cons, mIdx]
      split
      · rfl
      · exact ih _
  rw [e1]
  congr 1
  cases mIdx m x 0 with
  | none => rfl
  | some i =>
    simp only [Option.bind_some]
    have := congrArg (fun l => l[i]?) hv
    simp only [List.getElem?_map] at this
    cases h : es.toList[i]? <;> cases h' : m[i]? <;> rw [h, h'] at this <;> simp at this ⊢
    exact this

/-- A look-up. -/
theorem run_look {t et : TypeId} {z : Value} (hK : Keys P kt κ) (ht : P.underlying t = some (.map kt et)) (hz : zeroO P et = some z) (h : Sat w0 w (mapC κ ν b m :: C)) (x : K) (ok : Bool) :
    (Instr.lookup t (.map (some b)) (κ x) ok).run P w = .ok (let r := match mGet m x with | some v => (ν v, true) | none => (z, false); if ok then .tuple #[r.1, .bool r.2] else r.1) w := by
  obtain ⟨hn, es, clock, h1, h2, h3, hS⟩ := map_open h
  have hg : (getObj b).run P w = .ok (.map es clock) w := by simp [getObj, Sem.run, hS.obj]
  simp only [Instr.lookup, Sem.run_bind, run_underlying ht, Result.andThen_ok, hg, Sem.run_pure, hK.check, find_run hK h1]
  cases hi : mIdx m x 0 with
  | none =>
    rw [mGet_none (mIdx_none hi)]
    simp only [Option.bind_none, Sem.run_bind, zeroO_run hz, Result.andThen_ok, Sem.run_pure]
  | some i =>
    obtain ⟨_, v, hv, hb⟩ := mIdx_some hi
    simp only [Nat.sub_zero] at hv hb
    rw [mGet_at hv hb]
    simp only [Option.bind_some, hv, Option.map_some, Sem.run_bind, Sem.run_pure, Result.andThen_ok]

end maps
section maps1
variable {K V : Type} {P : Program} {kt : TypeId} {κ : K → Value} {ν : V → Value} {w0 w : World} {C : List Chunk} {b : Nat} {m : List (K × V)}
theorem run_maplen {t et : TypeId} (ht : P.underlying t = some (.map kt et)) (h : Sat w0 w (mapC κ ν b m :: C)) (ty : TypeId) : (Builtin.len_ #[t] ty #[.map (some b)]).run P w = .ok (.int .i64 m.length) w := by
  obtain ⟨hn, es, clock, h1, h2, h3, hS⟩ := map_open h
  have hg : (getObj b).run P w = .ok (.map es clock) w := by simp [getObj, Sem.run, hS.obj]
  have hl : es.size = m.length := by have := congrArg List.length h1; simpa using this
  have e0 : (#[t] : Array TypeId)[0]? = some t := rfl
  have e1 : (#[(.map (some b) : Value)] : Array Value)[0]? = some (.map (some b)) := rfl
  simp only [Builtin.len_, e0, e1, Sem.run_bind, run_underlying ht, Result.andThen_ok, hg, Sem.run_pure, goInt, hl]

end maps1
section maps2
variable {K V : Type} [DecidableEq K] {P : Program} {kt : TypeId} {κ : K → Value} {ν : V → Value} {w0 w : World} {C : List Chunk} {b : Nat} {m : List (K × V)}
theorem put_set {x : K} {v v' : V} : ∀ {m : List (K × V)} {i : Nat}, (m.map (·.1)).Nodup → m[i]? = some (x, v') → m.map (fun p => if p.1 = x then (x, v) else p) = m.set i (x, v)
  | [], i, _, h => by simp at h
  | p :: r, 0, hn, h => by
    simp at h
    subst h
    simp only [List.map_cons, if_true, List.set_cons_zero, List.cons.injEq, true_and]
    have : ∀ q ∈ r, q.1 ≠ x := by
      intro q hq e
      simp only [List.map_cons, List.nodup_cons] at hn
      exact hn.1 (List.mem_map.2 ⟨q, hq, e⟩)
    exact (List.map_congr_left fun q hq => by simp [this q hq]).trans (List.map_id' r)
  | p :: r, i + 1, hn, h => by
    simp only [List.map_cons, List.nodup_cons] at hn
    have hr : r[i]? = some (x, v') := by simpa using h
    have hp : p.1 ≠ x := fun e => hn.1 (List.mem_map.2 ⟨(x, v'), List.mem_of_getElem? hr, e.symm⟩)
    simp only [List.map_cons, hp, if_false, List.set_cons_succ, put_set hn.2 hr]

theorem sat_setObj {o o' : Obj} (h : Sat w0 w (.obj b o :: C)) (ho : ∀ c e f, o ≠ .cells c e f) : ∃ w', (setObj b o').run P w = .ok () w' ∧ Sat w0 w' (.obj b o' :: C) := by
  have hb := h.obj
  have hlt : b < w.heap.size := (Array.getElem?_eq_some_iff.1 hb).1
  refine ⟨{ w with heap := w.heap.setIfInBounds b o' }, ?_, ?_⟩
  · unfold setObj
    simp only [Sem.run]
    cases o with
    | cells c e f => exact absurd rfl (ho c e f)
    | _ => simp only [hb]
  · exact h.set rfl rfl rfl (by simp) (by simp [hlt]) (fun i hi => by simp [Array.getElem?_setIfInBounds_ne (Ne.symm hi)])

/-- A store. -/
theorem run_put {t et : TypeId} (hK : Keys P kt κ) (ht : P.underlying t = some (.map kt et)) (h : Sat w0 w (mapC κ ν b m :: C)) (x : K) (v : V) :
    ∃ w', (Instr.mapUpdate t (.map (some b)) (κ x) (ν v)).run P w = .ok () w' ∧ Sat w0 w' (mapC κ ν b (mPut m x v) :: C) := by
  obtain ⟨hn, es, clock, h1, h2, h3, hS⟩ := map_open h
  have hg : (getObj b).run P w = .ok (.map es clock) w := by simp [getObj, Sem.run, hS.obj]
  simp only [Instr.mapUpdate, Sem.run_bind, run_underlying ht, Result.andThen_ok, hg, hK.check, find_run hK h1]
  cases hi : mIdx m x 0 with
  | none =>
    have hno := mIdx_none hi
    simp only [Option.bind_none]
    obtain ⟨w', hr, hS'⟩ := sat_setObj (P := P) (o' := .map (es.push { key := κ x, val := ν v, born := clock }) (clock + 1)) hS (by intros; simp)
    refine ⟨w', hr, ?_⟩
    have e : mPut m x v = m ++ [(x, v)] := by
      unfold mPut
      rw [if_neg]
      simp only [List.any_eq_true, decide_eq_true_eq, not_exists, not_and]
      exact fun p hp => hno p hp
    rw [e]
    refine map_shut hS' ?_ ?_ ?_ ?_
    · simp only [List.map_append, List.map_cons, List.map_nil, List.nodup_append, hn, true_and]
      refine ⟨by simp, fun a ha c hc => ?_⟩
      simp at hc
      subst hc
      obtain ⟨p, hp, rfl⟩ := List.mem_map.1 ha
      exact hno p hp
    · simp [h1]
    · simp only [Array.toList_push, List.map_append, List.map_cons, List.map_nil, List.nodup_append, h2, true_and]
      refine ⟨by simp, fun a ha c hc => ?_⟩
      simp at hc
      subst hc
      obtain ⟨p, hp, rfl⟩ := List.mem_map.1 ha
      exact Nat.ne_of_lt (h3 p hp)
    · intro e he
      simp only [Array.toList_push, List.mem_append, List.mem_singleton] at he
      rcases he with he | rfl
      · exact Nat.lt_succ_of_lt (h3 e he)
      · simp
  | some i =>
    obtain ⟨_, v', hv, hb⟩ := mIdx_some hi
    simp only [Nat.sub_zero] at hv hb
    simp only [Option.bind_some, hv, Option.map_some]
    have hkey : ((es[i]?).map (·.key)).getD (κ x) = κ x := by
      have := congrArg (fun l => l[i]?) h1
      simp only [List.getElem?_map, hv, Option.map_some] at this
      cases he : es[i]? with
      | none => rfl
      | some e =>
        have he' : es.toList[i]? = some e := by simpa using he
        rw [he'] at this
        simp at this
        simp [this.1]
    have hst : (Instr.keyThatStays (κ x) (κ x)).run P w = .ok (κ x) w := by simp [Instr.keyThatStays, hK.bits x]
    obtain ⟨w', hr, hS'⟩ := sat_setObj (P := P) (o' := .map (es.modify i fun e => { e with key := κ x, val := ν v }) clock) hS (by intros; simp)
    refine ⟨w', ?_, ?_⟩
    · simp only [Sem.run_bind, hkey, hst, Result.andThen_ok, hr]
    have e : mPut m x v = m.set i (x, v) := by
      unfold mPut
      rw [if_pos (by simpa using ⟨v', List.mem_of_getElem? hv⟩)]
      exact put_set hn hv
    rw [e]
    have hm : (es.modify i fun e => { e with key := κ x, val := ν v }).toList = es.toList.modify i (fun e => { e with key := κ x, val := ν v }) := by simp
    have hilt : i < m.length := (List.getElem?_eq_some_iff.1 hv).1
    refine map_shut hS' ?_ ?_ ?_ ?_
    · have : (m.set i (x, v)).map (·.1) = m.map (·.1) := by
        apply List.ext_getElem?
        intro j
        simp only [List.getElem?_map, List.getElem?_set]
        by_cases hij : i = j
        · subst hij
          rw [if_pos rfl, hv, if_pos hilt]
          rfl
        · rw [if_neg hij]
      rw [this]; exact hn
    · rw [hm]
      apply List.ext_getElem?
      intro j
      have := congrArg (fun l => l[j]?) h1
      simp only [List.getElem?_map] at this
      simp only [List.getElem?_map, List.getElem?_modify, List.getElem?_set]
      by_cases hij : i = j
      · subst hij
        simp only [if_true, hilt]
        rw [hv] at this
        cases he : es.toList[i]? with
        | none => rw [he] at this; cases this
        | some e => simp
      · simp only [hij, if_false]
        cases he : es.toList[j]? <;> rw [he] at this <;> simpa using this
    · rw [hm]
      have : (es.toList.modify i (fun e => { e with key := κ x, val := ν v })).map (·.born) = es.toList.map (·.born) := by
        apply List.ext_getElem?
        intro j
        simp only [List.getElem?_map, List.getElem?_modify]
        cases es.toList[j]? with
        | none => rfl
        | some e => by_cases hij : i = j <;> simp [hij]
      rw [this]; exact h2
    · rw [hm]
      intro e he
      obtain ⟨j, hj⟩ := List.getElem?_of_mem he
      rw [List.getElem?_modify] at hj
      cases hq : es.toList[j]? with
      | none => rw [hq] at hj; cases hj
      | some q =>
        rw [hq] at hj
        have hlt := h3 q (List.mem_of_getElem? hq)
        by_cases hij : i = j
        · simp [hij] at hj; subst hj; exact hlt
        · simp [hij] at hj; subst hj; exact hlt

theorem del_erase {x : K} {v' : V} : ∀ {m : List (K × V)} {i : Nat}, (m.map (·.1)).Nodup → m[i]? = some (x, v') → mDel m x = m.eraseIdx i
  | [], i, _, h => by simp at h
  | p :: r, 0, hn, h => by
    simp at h
    subst h
    simp only [List.map_cons, List.nodup_cons] at hn
    simp only [mDel, List.filter_cons, decide_true, Bool.not_true, Bool.false_eq_true, if_false, List.eraseIdx_cons_zero]
    exact List.filter_eq_self.2 fun q hq => by simpa using fun e => hn.1 (List.mem_map.2 ⟨q, hq, e⟩)
  | p :: r, i + 1, hn, h => by
    simp only [List.map_cons, List.nodup_cons] at hn
    have hr : r[i]? = some (x, v') := by simpa using h
    have hp : p.1 ≠ x := fun e => hn.1 (List.mem_map.2 ⟨(x, v'), List.mem_of_getElem? hr, e.symm⟩)
    have := del_erase hn.2 hr
    simp only [mDel] at this ⊢
    simp [List.filter_cons, hp, this]
theorem del_none {x : K} (h : ∀ p ∈ m, p.1 ≠ x) : mDel m x = m := List.filter_eq_self.2 fun q hq => by simpa using h q hq

/-- delete. -/
theorem run_del {t et ty : TypeId} (hK : Keys P kt κ) (ht : P.underlying t = some (.map kt et)) (h : Sat w0 w (mapC κ ν b m :: C)) (x : K) :
    ∃ w', (Builtin.delete_ #[t, kt] ty #[.map (some b), κ x]).run P w = .ok (.tuple #[]) w' ∧ Sat w0 w' (mapC κ ν b (mDel m x) :: C) := by
  obtain ⟨hn, es, clock, h1, h2, h3, hS⟩ := map_open h
  have hg : (getObj b).run P w = .ok (.map es clock) w := by simp [getObj, Sem.run, hS.obj]
  have e0 : (#[t, kt] : Array TypeId)[0]? = some t := rfl
  have e1 : (#[(.map (some b) : Value), κ x] : Array Value)[0]? = some (.map (some b)) := rfl
  have e2 : (#[(.map (some b) : Value), κ x] : Array Value)[1]? = some (κ x) := rfl
  simp only [Builtin.delete_, e0, e1, e2, Sem.run_bind, run_underlying ht, Result.andThen_ok, hg, hK.check, find_run hK h1]
  cases hi : mIdx m x 0 with
  | none =>
    obtain ⟨w', hr, hS'⟩ := sat_setObj (P := P) (o' := .map es clock) hS (by intros; simp)
    refine ⟨w', by simp only [Option.bind_none, Sem.run_bind, hr, Result.andThen_ok, Sem.run_pure], ?_⟩
    rw [del_none (mIdx_none hi)]
    exact map_shut hS' hn h1 h2 h3
  | some i =>
    obtain ⟨_, v', hv, hb⟩ := mIdx_some hi
    simp only [Nat.sub_zero] at hv hb
    obtain ⟨w', hr, hS'⟩ := sat_setObj (P := P) (o' := .map (es.eraseIdxIfInBounds i) clock) hS (by intros; simp)
    refine ⟨w', by simp only [Option.bind_some, hv, Option.map_some, Sem.run_bind, hr, Result.andThen_ok, Sem.run_pure], ?_⟩
    rw [del_erase hn hv]
    have hm : (es.eraseIdxIfInBounds i).toList = es.toList.eraseIdx i := by
      unfold Array.eraseIdxIfInBounds
      split
      · simp
      · rename_i hge
        have : es.toList.length ≤ i := by simpa using Nat.le_of_not_lt hge
        rw [List.eraseIdx_of_length_le this]
    refine map_shut hS' ?_ ?_ ?_ ?_
    · have : (m.eraseIdx i).map (·.1) = (m.map (·.1)).eraseIdx i := map_eraseIdx _ _ _
      rw [this]
      exact hn.sublist (List.eraseIdx_sublist _ _)
    · rw [hm]
      have := congrArg (fun l => l.eraseIdx i) h1
      simpa only [map_eraseIdx] using this
    · rw [hm, map_eraseIdx]
      exact h2.sublist (List.eraseIdx_sublist _ _)
    · rw [hm]
      intro e he
      exact h3 e ((List.eraseIdx_sublist _ _).subset he)
end maps2

/-! ### whole numbers and strings as keys -/
theorem int_keys {P : Program} {kt : TypeId} {k : IntKind} (hk : P.underlying kt = some (.int k)) : Keys P kt (Value.int k) where
  check e x w := by
    rw [show (10000 : Nat) = 9999 + 1 from rfl, Instr.checkKey]
    simp only [Sem.run_bind, run_underlying hk, Result.andThen_ok]
    rfl
  find x es ks w h := by
    have key : ∀ (es : List MapEntry) (ks : List Int) (i : Nat), es.map (·.key) = ks.map (Value.int k) →
        Instr.findNow (.int k) (.int k x) es i = some ((mIdx (ks.map fun k => (k, ())) x i).bind fun j => (es[j - i]?).map fun e => (j, e.val)) := by
      intro es
      induction es with
      | nil => intro ks i h; cases ks <;> simp at h; rfl
      | cons e r ih =>
        intro ks i h
        cases ks with
        | nil => simp at h
        | cons y ys =>
          simp only [List.map_cons, List.cons.injEq] at h
          simp only [Instr.findNow, h.1, Instr.sameNow, if_true, List.map_cons, mIdx]
          by_cases hxy : y = x
          · subst hxy; simp
          · have : (x == y) = false := by simpa using fun e => hxy e.symm
            simp only [this, hxy, if_false, ih ys (i + 1) h.2]
            congr 1
            cases hi : mIdx (ys.map fun k => (k, ())) x (i + 1) with
            | none => rfl
            | some j =>
              obtain ⟨hle, _⟩ := mIdx_some hi
              simp only [Option.bind_some]
              rw [show j - i = (j - (i + 1)) + 1 by omega]
              rfl
    have h2 := key es ks 0 h
    simp only [Nat.sub_zero] at h2
    unfold Instr.findKey
    simp only [Sem.run_bind, run_underlying hk, Result.andThen_ok, h2, Sem.run_pure]
  bits x := by
    rw [show (10000 : Nat) = 9999 + 1 from rfl]
    simp [Instr.sameBits]
theorem string_keys {P : Program} {kt : TypeId} (hk : P.underlying kt = some .string) : Keys P kt Value.string where
  check e x w := by
    rw [show (10000 : Nat) = 9999 + 1 from rfl, Instr.checkKey]
    simp only [Sem.run_bind, run_underlying hk, Result.andThen_ok]
    rfl
  find x es ks w h := by
    have key : ∀ (es : List MapEntry) (ks : List ByteArray) (i : Nat), es.map (·.key) = ks.map Value.string →
        Instr.findNow .string (.string x) es i = some ((mIdx (ks.map fun k => (k, ())) x i).bind fun j => (es[j - i]?).map fun e => (j, e.val)) := by
      intro es
      induction es with
      | nil => intro ks i h; cases ks <;> simp at h; rfl
      | cons e r ih =>
        intro ks i h
        cases ks with
        | nil => simp at h
        | cons y ys =>
          simp only [List.map_cons, List.cons.injEq] at h
          simp only [Instr.findNow, h.1, Instr.sameNow, List.map_cons, mIdx, ba_beq]
          by_cases hxy : y = x
          · subst hxy; simp
          · have : ¬ x = y := fun e => hxy e.symm
            simp only [this, decide_false, hxy, if_false, ih ys (i + 1) h.2]
            congr 1
            cases hi : mIdx (ys.map fun k => (k, ())) x (i + 1) with
            | none => rfl
            | some j =>
              obtain ⟨hle, _⟩ := mIdx_some hi
              simp only [Option.bind_some]
              rw [show j - i = (j - (i + 1)) + 1 by omega]
              rfl
    have h2 := key es ks 0 h
    simp only [Nat.sub_zero] at h2
    unfold Instr.findKey
    simp only [Sem.run_bind, run_underlying hk, Result.andThen_ok, h2, Sem.run_pure]
  bits x := by
    rw [show (10000 : Nat) = 9999 + 1 from rfl]
    simp [Instr.sameBits, ba_beq]
end Go.Proofs.Ytbpkfifiigpdcaa.Sk
