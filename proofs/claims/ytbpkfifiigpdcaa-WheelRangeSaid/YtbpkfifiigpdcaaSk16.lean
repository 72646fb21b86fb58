import Derived.Test.YtbpkfifiigpdcaaSk15
/-! Sk, part sixteen: an entry made ahead of its value (two assignments at once). -/
namespace Go.Proofs.Ytbpkfifiigpdcaa.Sk
open Go Go.RowKit
set_option linter.unusedVariables false
set_option linter.unusedSimpArgs false

/-- A map whose last entry (x, v) was just made, with the stamp s. -/
def mapE {K V : Type} (κ : K → Value) (ν : V → Value) (b : Nat) (m : List (K × V)) (x : K) (v : Value) (s : Nat) : Chunk := .pr fun f => (m.map (·.1)).Nodup ∧ (∀ p ∈ m, p.1 ≠ x) ∧
  ∃ (es : Array MapEntry) (clock : Nat), es.toList.map (fun e => (e.key, e.val)) = m.map (fun p => (κ p.1, ν p.2)) ∧ (es.toList.map (·.born)).Nodup ∧ (∀ e ∈ es.toList, e.born < s) ∧ s < clock ∧ (Chunk.obj b (.map (es.push { key := κ x, val := v, born := s }) clock)).holds f
section
variable {K V : Type} [DecidableEq K] {P : Program} {kt : TypeId} {κ : K → Value} {ν : V → Value} {w0 w : World} {C : List Chunk} {b : Nat} {m : List (K × V)}
theorem run_entry {t et : TypeId} {z : Value} (hK : Keys P kt κ) (ht : P.underlying t = some (.map kt et)) (hz : zeroO P et = some z) (h : Sat w0 w (mapC κ ν b m :: C)) (x : K) (hx : mGet m x = none) :
    ∃ w' s, (Instr.mapEntry t (.map (some b)) (κ x)).run P w = .ok (.tuple #[z, .int .i64 (s : Nat)]) w' ∧ Sat w0 w' (mapE κ ν b m x z s :: C) := by
  obtain ⟨hn, es, clock, h1, h2, h3, hS⟩ := map_open h
  have hg : (getObj b).run P w = .ok (.map es clock) w := by simp [getObj, Sem.run, hS.obj]
  simp only [Instr.mapEntry, Sem.run_bind, run_underlying ht, Result.andThen_ok, hg, hK.check, find_run hK h1]
  cases hi : mIdx m x 0 with
  | none =>
    have hno := mIdx_none hi
    simp only [Option.bind_none, Sem.run_bind, zeroO_run hz, Result.andThen_ok]
    obtain ⟨w', hr, hS'⟩ := sat_setObj (P := P) (o' := .map (es.push { key := κ x, val := z, born := clock }) (clock + 1)) hS (by intros; simp)
    refine ⟨w', clock, ?_, ?_⟩
    · rw [hr]
      simp [goInt]
    · obtain ⟨f, hf, hs⟩ := hS'.own
      obtain ⟨g1, k, hg1, hk, ha, rfl⟩ := made_cons.1 hf
      exact ⟨hS'.os, hS'.tape, hS'.output, hS'.size, _, .cons ⟨hn, hno, es, clock + 1, h1, h2, h3, by omega, hg1⟩ hk ha, hs⟩
  | some i =>
    obtain ⟨_, v', hv, hb⟩ := mIdx_some hi
    simp only [Nat.sub_zero] at hv hb
    rw [mGet_at hv hb] at hx
    cases hx
theorem modify_push (es : Array MapEntry) (e : MapEntry) (f : MapEntry → MapEntry) : (es.push e).modify es.size f = es.push (f e) := by
  apply Array.ext_getElem?
  intro i
  rw [Array.getElem?_modify]
  by_cases hi : es.size = i
  · subst hi; simp
  · rw [if_neg hi]
    simp only [Array.getElem?_push]
    rw [if_neg (fun h => hi h.symm), if_neg (fun h => hi h.symm)]
end
section
variable {K V : Type} {P : Program} {kt : TypeId} {κ : K → Value} {ν : V → Value} {w0 w : World} {C : List Chunk} {b : Nat} {m : List (K × V)}
theorem run_entryStore {t : TypeId} {x : K} {v : Value} {u : V} {s : Nat} (h : Sat w0 w (mapE κ ν b m x v s :: C)) :
    ∃ w', (Instr.entryStore t (.map (some b)) (.int .i64 (s : Nat)) (ν u)).run P w = .ok () w' ∧ Sat w0 w' (mapC κ ν b (m ++ [(x, u)]) :: C) := by
  obtain ⟨f, hf, hs⟩ := h.own
  obtain ⟨g1, k, hg1, hk, ha, rfl⟩ := made_cons.1 hf
  obtain ⟨hn, hno, es, clock, h1, h2, h3, h4, h5⟩ := hg1
  have hS : Sat w0 w (.obj b (.map (es.push { key := κ x, val := v, born := s }) clock) :: C) := ⟨h.os, h.tape, h.output, h.size, _, .cons h5 hk ha, hs⟩
  have hg : (getObj b).run P w = .ok (.map (es.push { key := κ x, val := v, born := s }) clock) w := by simp [getObj, Sem.run, hS.obj]
  have hfi : (es.push { key := κ x, val := v, born := s }).findIdx? (fun e => (e.born : Int) == (s : Int)) = some es.size := by
    rw [Array.findIdx?_push]
    have : es.findIdx? (fun e => (e.born : Int) == (s : Int)) = none := by
      rw [Array.findIdx?_eq_none_iff]
      intro e he
      have := h3 e (by simpa using he)
      simp
      omega
    rw [this]
    simp
  obtain ⟨w', hr, hS'⟩ := sat_setObj (P := P) (o' := .map (es.push { key := κ x, val := ν u, born := s }) clock) hS (by intros; simp)
  refine ⟨w', ?_, ?_⟩
  · have hi : (asInt (.int .i64 (s : Nat))).run P w = .ok (s : Int) w := by simp [asInt, asIntOf]
    simp only [Instr.entryStore, Sem.run_bind, hg, Result.andThen_ok, hi, hfi, modify_push]
    exact hr
  · refine map_shut hS' ?_ ?_ ?_ ?_
    · simp only [List.map_append, List.map_cons, List.map_nil, List.nodup_append, hn, true_and]
      refine ⟨by simp, fun a ha c hc => ?_⟩
      simp at hc
      subst hc
      obtain ⟨p, hp, rfl⟩ := List.mem_map.1 ha
      exact hno p hp
    · simp [h1]
    · simp only [Array.toList_push, List.map_append, List.map_cons, List.map_nil, List.nodup_append, h2, true_and]
      refine ⟨by simp, fun a ha c hc => ?_⟩
      simp at hc
      subst hc
      obtain ⟨p, hp, rfl⟩ := List.mem_map.1 ha
      exact Nat.ne_of_lt (h3 p hp)
    · intro e he
      simp only [Array.toList_push, List.mem_append, List.mem_singleton] at he
      rcases he with he | rfl
      · exact Nat.lt_trans (h3 e he) h4
      · exact h4
end
section steps
variable {P : Program} {ops : Array Oper} {Q : Exit → Act → World → Prop} {a : Act} {w0 w : World} {n : Shape} {d : Nat} {L : List (Nat × Value)} {C : List Chunk} {S : World → Prop} {ds : List Nat} {ord : List (Nat × How)} {p j : Nat}
  {ty : TypeId} {pos : String} {af : Array Edge} {gd : Option (Nat × Bool)} {K V : Type} [DecidableEq K] {kt et : TypeId} {κ : K → Value} {ν : V → Value} {b : Nat} {m : List (K × V)} {x : K} {X Y Z : Operand} {t : TypeId}
theorem d_entry {z : Value} (i : Nat) (hD : Drawn P ops Q S ds ord) (hF : Fr a n L) (hp : ord[p]? = some (j, .on)) (ho : ops[j]? = some ⟨some d, .mapEntry t X Y, ty, pos, af, gd⟩) (hg : wantedB ops L ⟨some d, .mapEntry t X Y, ty, pos, af, gd⟩ = some true) (hn : Nat.blt d n.size = true)
    (hK : Keys P kt κ) (ht : P.underlying t = some (.map kt et)) (hz : zeroO P et = some z) (hX : a.eval X = .map (some b)) (hY : a.eval Y = κ x) (hS : Sat w0 w C) (hi : nth C i = some (mapC κ ν b m)) (hx : mGet m x = none)
    (hc : ∀ w' s, Sat w0 w' (upd C i (mapE κ ν b m x z s)) → S w') (k : ∀ s w', Sat w0 w' (upd C i (mapE κ ν b m x z s)) → ∀ a', Fr a' n ((d, .tuple #[z, .int .i64 (s : Nat)]) :: L) → wpD P ops Q S ds ord (p + 1) a' w') : wpD P ops Q S ds ord p a w := by
  obtain ⟨w', s, hr, hS'⟩ := run_entry hK ht hz (hS.front i hi) x hx
  have hS2 := hS'.back hi
  exact d_ev hD hF hp ho hg rfl hn (by simp only [execOp, hX, hY, Sem.run_bind, hr, Result.andThen_ok, Sem.run_pure]) (hc _ _ hS2) (k s w' hS2)
end steps
section steps2
variable {P : Program} {ops : Array Oper} {Q : Exit → Act → World → Prop} {a : Act} {w0 w : World} {n : Shape} {L : List (Nat × Value)} {C : List Chunk} {S : World → Prop} {ds : List Nat} {ord : List (Nat × How)} {p j : Nat}
  {ty : TypeId} {pos : String} {af : Array Edge} {gd : Option (Nat × Bool)} {K V : Type} {κ : K → Value} {ν : V → Value} {b s : Nat} {m : List (K × V)} {x : K} {u : V} {v : Value} {X Y Z : Operand} {t : TypeId}
theorem d_estore (i : Nat) (hD : Drawn P ops Q S ds ord) (hF : Fr a n L) (hp : ord[p]? = some (j, .on)) (ho : ops[j]? = some ⟨none, .entryStore t X Y Z, ty, pos, af, gd⟩) (hg : wantedB ops L ⟨none, .entryStore t X Y Z, ty, pos, af, gd⟩ = some true)
    (hX : a.eval X = .map (some b)) (hY : a.eval Y = .int .i64 (s : Nat)) (hZ : a.eval Z = ν u) (hS : Sat w0 w C) (hi : nth C i = some (mapE κ ν b m x v s))
    (hc : ∀ w', Sat w0 w' (upd C i (mapC κ ν b (m ++ [(x, u)]))) → S w') (k : ∀ w', Sat w0 w' (upd C i (mapC κ ν b (m ++ [(x, u)]))) → wpD P ops Q S ds ord (p + 1) a w') : wpD P ops Q S ds ord p a w := by
  obtain ⟨w', hr, hS'⟩ := run_entryStore (P := P) (t := t) (u := u) (hS.front i hi)
  have hS2 := hS'.back hi
  exact d_sk hD hF hp ho hg rfl (by simp only [execOp, hX, hY, hZ, Sem.run_bind, hr, Result.andThen_ok, Sem.run_pure]) (hc _ hS2) (k w' hS2)
theorem l_estore (i : Nat) (hD : Drawn P ops Q S ds ord) (hF : Fr a n L) (hp : ord[p]? = some (j, .ls)) (ho : ops[j]? = some ⟨none, .entryStore t X Y Z, ty, pos, af, gd⟩) (hg : wantedB ops L ⟨none, .entryStore t X Y Z, ty, pos, af, gd⟩ = some true)
    (hX : a.eval X = .map (some b)) (hY : a.eval Y = .int .i64 (s : Nat)) (hZ : a.eval Z = ν u) (hS : Sat w0 w C) (hi : nth C i = some (mapE κ ν b m x v s))
    (k : ∀ w', Sat w0 w' (upd C i (mapC κ ν b (m ++ [(x, u)]))) → wpD P ops Q S ds ord (p + 1) a w') : wpD P ops Q S ds ord p a w := by
  obtain ⟨w', hr, hS'⟩ := run_entryStore (P := P) (t := t) (u := u) (hS.front i hi)
  have hS2 := hS'.back hi
  exact l_sk hD hF hp ho hg rfl (by simp only [execOp, hX, hY, hZ, Sem.run_bind, hr, Result.andThen_ok, Sem.run_pure]) (k w' hS2)
end steps2
end Go.Proofs.Ytbpkfifiigpdcaa.Sk
