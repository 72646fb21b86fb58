import Derived.Test.YtbfdebddoncfhaaWh5
/-! The wheel as a list of those that wait, in the order in which they were laid down. -/
namespace Go.Proofs.Ytbfdebddoncfhaa
open Go Go.RowKit Go.Proofs.Ytbfdebddoncfhaa.Sk
set_option linter.unusedVariables false
set_option linter.unusedSimpArgs false
set_option maxRecDepth 100000

/-- Those of slot k. -/
def inSlot (n : Nat) (P : List Ent) (k : Nat) : List Ent := P.filter fun e => decide ((e.at_ % (n : Int)).toNat = k)
def Whl.of (n : Nat) (P : List Ent) (now last : Int) : Whl := { slots := (List.range n).map (inSlot n P), ticks := P.map fun e => (e.timer, e.at_), now := now, last := last }
/-- Timers rise, and are told. -/
def Rising (P : List Ent) (last : Int) : Prop := (P.map Ent.timer).Pairwise (· < ·) ∧ ∀ e ∈ P, 1 ≤ e.timer ∧ e.timer ≤ last

theorem inj_nodup {α β : Type} {f : α → β} : ∀ {l : List α}, (l.map f).Nodup → ∀ {a b : α}, a ∈ l → b ∈ l → f a = f b → a = b
  | [], _, _, _, h, _, _ => by cases h
  | x :: r, hn, a, b, ha, hb, he => by
    simp only [List.map_cons, List.nodup_cons] at hn
    cases ha with
    | head =>
      cases hb with
      | head => rfl
      | tail _ hb => exact absurd (List.mem_map.2 ⟨b, hb, he.symm⟩) hn.1
    | tail _ ha =>
      cases hb with
      | head => exact absurd (List.mem_map.2 ⟨a, ha, he⟩) hn.1
      | tail _ hb => exact inj_nodup hn.2 ha hb he
section pure
variable {n : Nat} {P : List Ent} {now last : Int}
theorem of_len : (Whl.of n P now last).slots.length = n := by simp [Whl.of]
theorem of_getD {k : Nat} (hk : k < n) : (Whl.of n P now last).slots.getD k [] = inSlot n P k := by simp [Whl.of, List.getD, hk]
theorem of_slot (at_ : Int) : (Whl.of n P now last).slotOf at_ = (at_ % (n : Int)).toNat := by simp [Whl.slotOf, of_len]
theorem slot_lt (h : 1 ≤ n) (at_ : Int) : (at_ % (n : Int)).toNat < n := by
  have e0 := Int.emod_nonneg at_ (show (n : Int) ≠ 0 by omega)
  have e1 := Int.emod_lt_of_pos at_ (show (0 : Int) < n by omega)
  omega
theorem Rising.nodup (h : Rising P last) : (P.map Ent.timer).Nodup := h.1.imp (fun hlt => by omega)
theorem Rising.filter (h : Rising P last) (p : Ent → Bool) : Rising (P.filter p) last :=
  ⟨h.1.sublist ((List.filter_sublist).map _), fun e he => h.2 e (List.mem_filter.1 he).1⟩
theorem Rising.add (h : Rising P last) (h0 : 0 ≤ last) (a : Int) (v : Value) (hv : v.oneCell' = true) : Rising (P ++ [⟨last + 1, a, v, hv⟩]) (last + 1) := by
  refine ⟨?_, fun e he => ?_⟩
  · simp only [List.map_append, List.map_cons, List.map_nil, List.pairwise_append, h.1, List.pairwise_singleton, true_and]
    intro x hx y hy
    simp at hy
    obtain ⟨e, he, rfl⟩ := List.mem_map.1 hx
    have := (h.2 e he).2
    omega
  · rcases List.mem_append.1 he with he | he
    · have := h.2 e he; omega
    · simp at he; subst he; simp; omega

theorem map_set_range (n k : Nat) (f g : Nat → List Ent) (hk : k < n) (h : ∀ j, j ≠ k → f j = g j) : ((List.range n).map f).set k (g k) = (List.range n).map g := by
  apply List.ext_getElem?
  intro j
  rw [List.getElem?_set]
  by_cases hj : k = j
  · subst hj
    simp [hk]
  · simp only [hj, if_false, List.getElem?_map]
    by_cases hl : j < n
    · simp [List.getElem?_range hl, h j (Ne.symm hj)]
    · simp [hl]

theorem of_add (h1 : 1 ≤ n) (hR : Rising P last) (t : Int) (v : Value) (hv : v.oneCell' = true) : (Whl.of n P now last).add t v hv = Whl.of n (P ++ [⟨last + 1, now + t, v, hv⟩]) now (last + 1) := by
  have hk := slot_lt h1 (now + t)
  have e1 : (Whl.of n P now last).now = now := rfl
  have e2 : (Whl.of n P now last).last = last := rfl
  have e3 : (Whl.of n P now last).ticks = P.map fun e => (e.timer, e.at_) := rfl
  unfold Whl.add
  rw [e1, e2, e3, of_slot, of_getD hk]
  simp only [Whl.of]
  congr 1
  · have := map_set_range n _ (inSlot n P) (inSlot n (P ++ [⟨last + 1, now + t, v, hv⟩])) hk (fun j hj => by
      simp only [inSlot, List.filter_append, List.filter_cons, List.filter_nil]
      rw [if_neg (by simpa using fun e => hj e.symm)]
      simp)
    rw [← this]
    congr 1
    simp [inSlot, List.filter_append, List.filter_cons]
  · unfold mPut
    rw [if_neg]
    · simp
    · simp only [List.any_eq_true, decide_eq_true_eq, not_exists, not_and, List.mem_map, forall_exists_index, and_imp]
      rintro x e he rfl
      have := (hR.2 e he).2
      simp only
      omega

theorem delAll_eq (m : List (Int × Int)) : ∀ (D : List Ent), delAll m D = m.filter fun q => !(D.any fun e => decide (e.timer = q.1))
  | [] => by simp [delAll, List.filter_eq_self.2]
  | e :: D => by
    have := delAll_eq (mDel m e.timer) D
    unfold delAll at this ⊢
    rw [List.foldl_cons, this]
    simp only [mDel, List.filter_filter]
    apply List.filter_congr
    intro q _
    by_cases h : e.timer = q.1
    · simp [h]
    · simp [h, Ne.symm h]

/-- Some of one slot go. -/
theorem of_part (h1 : 1 ≤ n) (hR : Rising P last) {k : Nat} (hk : k < n) (p : Ent → Bool) (hp : ∀ e ∈ P, p e = true → (e.at_ % (n : Int)).toNat = k) :
    (Whl.of n P now last).part k p = Whl.of n (P.filter fun e => !p e) now last ∧ (inSlot n P k).filter p = P.filter p := by
  have e0 : (inSlot n P k).filter p = P.filter p := by
    unfold inSlot
    rw [List.filter_filter]
    apply List.filter_congr
    intro e he
    cases hpe : p e
    · simp
    · simp [hp e he hpe]
  refine ⟨?_, e0⟩
  have e3 : (Whl.of n P now last).ticks = P.map fun e => (e.timer, e.at_) := rfl
  unfold Whl.part
  rw [of_getD hk, e0, e3, delAll_eq]
  simp only [Whl.of]
  congr 1
  · have := map_set_range n _ (inSlot n P) (inSlot n (P.filter fun e => !p e)) hk (fun j hj => by
      unfold inSlot
      rw [List.filter_filter]
      apply List.filter_congr
      intro e he
      cases hpe : p e
      · simp
      · have := hp e he hpe
        simp [this, Ne.symm hj])
    rw [← this]
    congr 1
    unfold inSlot
    rw [List.filter_filter, List.filter_filter]
    apply List.filter_congr
    intro e _
    exact Bool.and_comm _ _
  · rw [List.filter_map]
    congr 1
    apply List.filter_congr
    intro e he
    simp only [Function.comp]
    congr 1
    cases hpe : p e
    · rw [List.any_eq_false]
      intro d hd
      obtain ⟨hd, hpd⟩ := List.mem_filter.1 hd
      simp only [decide_eq_true_eq]
      intro heq
      have : d = e := inj_nodup hR.nodup hd he heq
      subst this
      rw [hpe] at hpd
      cases hpd
    · rw [List.any_eq_true]
      exact ⟨e, List.mem_filter.2 ⟨he, hpe⟩, by simp⟩
theorem of_tick (h1 : 1 ≤ n) (hR : Rising P last) : (Whl.of n P now last).tick = Whl.of n (P.filter fun e => !decide (e.at_ = now + 1)) (now + 1) last ∧ (Whl.of n P now last).due = P.filter (fun e => decide (e.at_ = now + 1)) := by
  have hk := slot_lt h1 (now + 1)
  have e1 : (Whl.of n P now last).now = now := rfl
  have e2 : ({ Whl.of n P now last with now := now + 1 } : Whl) = Whl.of n P (now + 1) last := rfl
  have hp : ∀ e ∈ P, (decide (e.at_ = now + 1)) = true → (e.at_ % (n : Int)).toNat = ((now + 1) % (n : Int)).toNat := by
    intro e _ h
    rw [of_decide_eq_true h]
  have h := of_part (now := now + 1) h1 hR hk (fun e => decide (e.at_ = now + 1)) hp
  unfold Whl.tick Whl.due
  rw [e1, e2, of_slot, of_getD hk]
  exact h
theorem of_cancel (h1 : 1 ≤ n) (hR : Rising P last) {e : Ent} (he : e ∈ P) : (Whl.of n P now last).part ((Whl.of n P now last).slotOf e.at_) (fun x => decide (x.timer = e.timer)) = Whl.of n (P.filter fun x => !decide (x.timer = e.timer)) now last ∧
    ((Whl.of n P now last).slots.getD ((Whl.of n P now last).slotOf e.at_) []).filter (fun x => decide (x.timer = e.timer)) = [e] := by
  have hk := slot_lt h1 e.at_
  have h := of_part (now := now) h1 hR hk (fun x => decide (x.timer = e.timer)) (fun x hx hxe => by
    have : x = e := inj_nodup hR.nodup hx he (of_decide_eq_true hxe)
    rw [this])
  rw [of_slot, of_getD hk, h.2]
  refine ⟨h.1, ?_⟩
  have hnd := hR.nodup
  clear h hk hR
  induction P with
  | nil => cases he
  | cons a r ih =>
    simp only [List.map_cons, List.nodup_cons] at hnd
    rcases List.mem_cons.1 he with rfl | he
    · rw [List.filter_cons, if_pos (by simp)]
      congr 1
      rw [List.filter_eq_nil_iff]
      intro x hx
      simp only [decide_eq_true_eq]
      exact fun heq => hnd.1 (List.mem_map.2 ⟨x, hx, heq⟩)
    · have hne : ¬ a.timer = e.timer := fun heq => hnd.1 (List.mem_map.2 ⟨e, he, heq.symm⟩)
      rw [List.filter_cons, if_neg (by simpa using hne)]
      exact ih he hnd.2
theorem of_get (t : Int) : mGet (Whl.of n P now last).ticks t = (P.find? fun e => decide (e.timer = t)).map Ent.at_ := by
  unfold mGet Whl.of
  simp only
  rw [List.find?_map]
  cases h : P.find? ((fun p : Int × Int => decide (p.1 = t)) ∘ fun e : Ent => (e.timer, e.at_)) with
  | none =>
    have : P.find? (fun e => decide (e.timer = t)) = none := h
    rw [this]; rfl
  | some e =>
    have : P.find? (fun e => decide (e.timer = t)) = some e := h
    rw [this]; rfl
theorem find_timer (hR : Rising P last) {e : Ent} (he : e ∈ P) : P.find? (fun x => decide (x.timer = e.timer)) = some e := by
  cases h : P.find? (fun x => decide (x.timer = e.timer)) with
  | none =>
    have := List.find?_eq_none.1 h e he
    simp at this
  | some x =>
    have h1 := List.mem_of_find?_eq_some h
    have h2 := List.find?_some h
    rw [inj_nodup hR.nodup h1 he (of_decide_eq_true h2)]
theorem of_room {TB : Nat} (h : (P.length + 1) * TB ≤ 140737488355328) : ∀ l ∈ (Whl.of n P now last).slots, (l.length + 1) * TB ≤ 140737488355328 := by
  intro l hl
  obtain ⟨k, _, rfl⟩ := List.mem_map.1 hl
  have : (inSlot n P k).length ≤ P.length := List.length_filter_le _ _
  exact Nat.le_trans (Nat.mul_le_mul_right _ (by omega)) h
end pure

/-- A wheel of n slots in which these wait. -/
def whC_i (g n : Nat) (P : List Ent) (now last : Int) : Chunk := wheelC 123 124 126 g (Whl.of n P now last)
section ops
variable {w0 w : World} {F : List Chunk} {g n : Nat} {P : List Ent} {now last t : Int}
theorem wNew_i (hS : Sat w0 w F) (h1 : 1 ≤ n) (h2 : n ≤ 4096) :
    Calls Try.prog 30 #[.int .i64 n] w fun e w' => ∃ g, e = .returned (.tuple #[.pointer (some ⟨g, 0, none⟩), .int .i64 0]) ∧ Sat w0 w' (whC_i g n [] 0 0 :: F) := by
  refine (new_i hS h1 h2).mono ?_
  rintro e w' ⟨g, rfl, h⟩
  refine ⟨g, rfl, ?_⟩
  have : Whl.empty n = Whl.of n [] 0 0 := by
    unfold Whl.empty Whl.of
    congr 1
    apply List.ext_getElem?
    intro j
    by_cases hj : j < n <;> simp [hj, inSlot]
  rw [this] at h
  exact h
theorem wAddNo_i {v : Value} (hS : Sat w0 w (whC_i g n P now last :: F)) (ht : t < 1 ∨ 100000 < t) : Calls Try.prog 31 #[.pointer (some ⟨g, 0, none⟩), .int .i64 t, v] w fun e w' => e = .returned (.tuple #[.int .i64 0, .int .i64 1]) ∧ Sat w0 w' (whC_i g n P now last :: F) := add_no_i hS ht
theorem wAdd_i {x : Int} (hS : Sat w0 w (whC_i g n P now last :: F)) (hR : Rising P last) (h1 : 1 ≤ n) (h2 : n ≤ 4096) (ht : 1 ≤ t) (ht1 : t ≤ 100000) (hn0 : 0 ≤ now) (hn1 : now ≤ 4611686018427387904) (hl0 : 0 ≤ last) (hl1 : last ≤ 4611686018427387904)
    (hroom : (P.length + 1) * 24 ≤ 140737488355328) :
    Calls Try.prog 31 #[.pointer (some ⟨g, 0, none⟩), .int .i64 t, .int .i64 x] w fun e w' => e = .returned (.tuple #[.int .i64 (last + 1), .int .i64 0]) ∧ Sat w0 w' (whC_i g n (P ++ [⟨last + 1, now + t, .int .i64 x, rfl⟩]) now (last + 1) :: F) := by
  unfold whC_i
  rw [← of_add h1 hR t (.int .i64 x) rfl]
  exact add_i hS ht ht1 ⟨by rw [of_len]; exact h1, by rw [of_len]; exact h2, hn0, hn1, hl0, hl1, of_room hroom⟩
theorem wTick_i (hS : Sat w0 w (whC_i g n P now last :: F)) (hR : Rising P last) (h1 : 1 ≤ n) (hn0 : 0 ≤ now) (hn1 : now + 1 ≤ 4611686018427387904) (hroom : (P.length + 1) * 24 ≤ 140737488355328) :
    Calls Try.prog 36 #[.pointer (some ⟨g, 0, none⟩)] w fun e w' => ∃ A c, e = .returned (.slice A (P.filter fun e => decide (e.at_ = now + 1)).length c) ∧
      Sat w0 w' (rowC 3 1 (.slice A (P.filter fun e => decide (e.at_ = now + 1)).length c) (P.filter fun e => decide (e.at_ = now + 1)).length ((P.filter fun e => decide (e.at_ = now + 1)).map Ent.v) ::
        whC_i g n (P.filter fun e => !decide (e.at_ = now + 1)) (now + 1) last :: F) := by
  obtain ⟨e1, e2⟩ := of_tick (now := now) h1 hR
  unfold whC_i
  rw [← e1, ← e2]
  exact tick_i hS (by rw [of_len]; exact h1) hn0 hn1 (of_room hroom)
end ops
section ops
variable {w0 w : World} {F : List Chunk} {g n : Nat} {P : List Ent} {now last t : Int}
theorem wCancelNo_i (hS : Sat w0 w (whC_i g n P now last :: F)) (ht : ∀ e ∈ P, e.timer ≠ t) : Calls Try.prog 33 #[.pointer (some ⟨g, 0, none⟩), .int .i64 t] w fun e w' => e = .returned (.tuple #[(.int .i64 0), .int .i64 170]) ∧ Sat w0 w' (whC_i g n P now last :: F) := by
  refine cancel_no_i hS ?_
  rw [of_get, List.find?_eq_none.2 (fun e he => by simpa using ht e he)]
  rfl
theorem wCancel_i (hS : Sat w0 w (whC_i g n P now last :: F)) (hR : Rising P last) (h1 : 1 ≤ n) {en : Ent} (hen : en ∈ P) (ht : en.timer = t) (h0 : 0 ≤ en.at_) (hroom : (P.length + 1) * 24 ≤ 140737488355328) :
    Calls Try.prog 33 #[.pointer (some ⟨g, 0, none⟩), .int .i64 t] w fun e w' => e = .returned (.tuple #[en.v, .int .i64 0]) ∧ Sat w0 w' (whC_i g n (P.filter fun x => !decide (x.timer = t)) now last :: F) := by
  subst ht
  obtain ⟨e1, e2⟩ := of_cancel (now := now) h1 hR hen
  unfold whC_i
  rw [← e1]
  exact cancel_i (q := en.at_) (r := []) hS (by rw [of_get, find_timer hR hen]; rfl) h0 (by rw [of_len]; exact h1) (of_room hroom) e2
end ops
end Go.Proofs.Ytbfdebddoncfhaa
