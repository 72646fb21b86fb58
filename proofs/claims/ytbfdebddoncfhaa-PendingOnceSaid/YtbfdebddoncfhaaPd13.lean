import Derived.Test.YtbfdebddoncfhaaPd12
import Derived.Test.YtbfdebddoncfhaaMC
/-! PendingFull: the plain part. -/
namespace Go.Proofs.Ytbfdebddoncfhaa
open Go Go.RowKit Go.Proofs.Ytbfdebddoncfhaa.Sk
set_option linter.unusedVariables false
set_option linter.unusedSimpArgs false
set_option maxRecDepth 100000

theorem add_own {w0 w : World} {F : List Chunk} {k g : Nat} {T : Tab} {p : Pnd} {h : Value × Value} (hS : Sat w0 w (mesC k h p :: tabC k g T :: F))
    (hk : mGet (keysL T.L) p.key = none) (hm : mGet (waysL T.L) p.way = none) (hfull : (waitsL T.L).length < T.most) (hnx : ∀ e ∈ T.L, e.n ≠ T.next) (hR : Rising T.P T.last) (ht0 : 1 ≤ T.timeout) (ht1 : T.timeout ≤ 100000)
    (hn0 : 0 ≤ T.now) (hn1 : T.now ≤ 4611686018427387904) (hl0 : 0 ≤ T.last) (hl1 : T.last ≤ 4611686018427387904) (hx0 : 0 ≤ T.next) (hx1 : T.next ≤ 4611686018427387904) (hroom : (T.L.length + 1) * 8 ≤ 140737488355328) (hroomP : (T.P.length + 1) * 24 ≤ 140737488355328) :
    Calls Try.prog 9 #[.pointer (some ⟨g, 0, none⟩), p.value h] w fun e w' => e = .returned (.int .i64 0) ∧ Sat w0 w' (tabC k g (T.add p) :: F) := by
  obtain ⟨f1, hf1, hS, hg1⟩ := hS.exact
  obtain ⟨hR1, hR2⟩ := mes_rd hf1 hg1
  refine (add_c k hR1 hR2 (keeps_exact (C := exactC f1 :: F) (i := 0) hg1 rfl) (hS.front 1 rfl) hk hm hfull hnx hR ht0 ht1 hn0 hn1 hl0 hl1 hx0 hx1 hroom hroomP).mono ?_
  rintro e w' ⟨rfl, h⟩
  exact ⟨rfl, h.drop 1⟩

def fE (i : Nat) : Ety := ⟨i, req i, (i : Int) + 1, false⟩
def fP (i : Nat) : Ent := ⟨(i : Int) + 1, 5, .int .i64 i, rfl⟩
def fT (m : Int) (l : List Nat) (next : Nat) : Tab := ⟨m, 5, 5, next, l.map fE, l.map fP, 0, next⟩
structure FOk (m : Nat) (l : List Nat) (next : Nat) : Prop where
  len : l.length = m
  up : l.Pairwise (· < ·)
  lt : ∀ x ∈ l, x < next
theorem f_add {m : Int} {l : List Nat} {next : Nat} : (fT m l next).add (req next) = fT m (l ++ [next]) (next + 1) := by
  simp [Tab.add, fT, fE, fP]
theorem f_waitsE {l : List Nat} : waitsE (l.map fE) = l.map fE := by
  unfold waitsE
  rw [List.filter_eq_self]
  intro e he
  obtain ⟨i, _, rfl⟩ := List.mem_map.1 he
  rfl
theorem f_waits {l : List Nat} : waitsL (l.map fE) = l.map fun i : Nat => (i : Int) := by
  rw [waitsE_n, f_waitsE, List.map_map]
  rfl
theorem f_req {l : List Nat} : (waitsE (l.map fE)).map Ety.p = l.map req := by
  rw [f_waitsE, List.map_map]
  rfl
theorem f_keys {l : List Nat} : keysL (l.map fE) = l.map fun i => (reqK i, (i : Int)) := by
  have : keysL (l.map fE) = (waitsE (l.map fE)).map fun e => (e.p.key, e.n) := rfl
  rw [this, f_waitsE, List.map_map]
  rfl
theorem reqK_inj {i j : Nat} (h : reqK i = reqK j) : i = j := by
  unfold reqK at h
  injection h with _ _ h
  exact txt_inj h
theorem f_key {l : List Nat} {n : Nat} (h : n ∉ l) : mGet (keysL (l.map fE)) (req n).key = none := by
  rw [f_keys]
  refine mGet_none fun p hp => ?_
  obtain ⟨i, hi, rfl⟩ := List.mem_map.1 hp
  intro e
  exact h (reqK_inj e ▸ hi)
theorem f_way {l : List Nat} {n : Nat} (h : n ∉ l) : mGet (waysL (l.map fE)) (req n).way = none := by
  refine mGet_none fun p hp => ?_
  unfold waysL at hp
  rw [List.map_map] at hp
  obtain ⟨i, hi, rfl⟩ := List.mem_map.1 hp
  intro e
  have e2 : ((i : Nat) : Int) = (n : Int) := congrArg Prod.snd e
  have e3 : i = n := by omega
  exact h (e3 ▸ hi)
theorem f_rising {l : List Nat} {next : Nat} (h1 : l.Pairwise (· < ·)) (h2 : ∀ x ∈ l, x < next) : Rising (l.map fP) next := by
  constructor
  · rw [List.map_map, List.pairwise_map]
    exact h1.imp (fun {a b} hab => by simp only [Function.comp, fP]; omega)
  · intro e he
    obtain ⟨i, hi, rfl⟩ := List.mem_map.1 he
    have := h2 i hi
    simp only [fP]
    omega
theorem f_nx {l : List Nat} {next : Nat} (h2 : ∀ x ∈ l, x < next) : ∀ e ∈ l.map fE, e.n ≠ (next : Int) := by
  intro e he
  obtain ⟨i, hi, rfl⟩ := List.mem_map.1 he
  have := h2 i hi
  simp only [fE]
  omega
theorem f_cancel {A B : List Nat} {k : Nat} (h1 : (A ++ k :: B).Pairwise (· < ·)) : ((A ++ k :: B).map fP).filter (fun x => !decide (x.timer = (fE k).timer)) = (A ++ B).map fP := by
  rw [List.pairwise_append] at h1
  obtain ⟨_, h2, h3⟩ := h1
  rw [List.pairwise_cons] at h2
  have ka : ∀ l : List Nat, (∀ x ∈ l, x ≠ k) → (l.map fP).filter (fun x => !decide (x.timer = (fE k).timer)) = l.map fP := fun l h => by
    rw [List.filter_eq_self]
    intro e he
    obtain ⟨i, hi, rfl⟩ := List.mem_map.1 he
    have := h i hi
    have h4 : ¬ ((fP i).timer = (fE k).timer) := by
      simp only [fP, fE]
      omega
    rw [decide_eq_false h4]
    rfl
  rw [List.map_append, List.map_cons, List.filter_append, List.filter_cons, ka A (fun x hx => by have := h3 x hx k (by simp); omega), ka B (fun x hx => by have := h2.1 x hx; omega), List.map_append]
  simp [fP, fE]
theorem f_ans {m : Int} {A B : List Nat} {k next : Nat} (h1 : (A ++ k :: B).Pairwise (· < ·)) : ({ fT m (A ++ k :: B) next with L := A.map fE ++ B.map fE, P := (fT m (A ++ k :: B) next).P.filter fun x => !decide (x.timer = (fE k).timer) } : Tab) = fT m (A ++ B) next := by
  have := f_cancel h1
  unfold fT
  simp only [this]
  rw [List.map_append, List.map_append]
theorem FOk.swap {m next k : Nat} {A B : List Nat} (h : FOk m (A ++ k :: B) next) : FOk m (A ++ B ++ [next]) (next + 1) ∧ (∀ x ∈ A ++ B, x < next) ∧ (A ++ B).Pairwise (· < ·) := by
  obtain ⟨h1, h2, h3⟩ := h
  have hs : (A ++ B).Sublist (A ++ k :: B) := (List.sublist_cons_self k B).append_left A
  have h2' := h2.sublist hs
  have h3' : ∀ x ∈ A ++ B, x < next := fun x hx => h3 x (hs.subset hx)
  refine ⟨⟨by simp at h1 ⊢; omega, ?_, ?_⟩, h3', h2'⟩
  · rw [List.pairwise_append]
    exact ⟨h2', by simp, fun a ha b hb => by simp at hb; subst hb; exact h3' a ha⟩
  · intro x hx
    rcases List.mem_append.1 hx with hx | hx
    · have := h3' x hx; omega
    · simp at hx; omega
end Go.Proofs.Ytbfdebddoncfhaa
