import Derived.Test.YtgnepnjicmgkaaaSa10
/-! SafOnce: what the queue holds. -/
namespace Go.Proofs.Ytgnepnjicmgkaaa
open Go Go.RowKit Go.Proofs.Ytgnepnjicmgkaaa.Sk
set_option linter.unusedVariables false
set_option linter.unusedSimpArgs false
set_option maxRecDepth 100000

def rr : ByteArray := ⟨#[114]⟩
def advN (n : Nat) : Adv := ⟨0, n, txt n, [], txt n ++ rr, []⟩
def onL (f c : Nat) : List Adv := (List.range c).map fun i => advN (f + i)
theorem onL_len {f c : Nat} : (onL f c).length = c := by simp [onL]
theorem onL_get {f c i : Nat} (h : i < c) : (onL f c)[i]? = some (advN (f + i)) := by simp [onL, h]
theorem onL_cons {f c : Nat} : onL f (c + 1) = advN f :: onL (f + 1) c := by
  unfold onL
  rw [List.range_succ_eq_map, List.map_cons, List.map_map]
  congr 1
  apply List.map_congr_left
  intro i _
  simp only [Function.comp]
  congr 1
  omega
theorem onL_snoc {f c : Nat} : onL f c ++ [advN (f + c)] = onL f (c + 1) := by
  unfold onL
  rw [List.range_succ, List.map_append]
  rfl
/-- Sizes: most 40, retry 20, tries 6. -/
structure Siz (m r t : Nat) : Prop where
  m1 : 1 ≤ m
  m2 : m ≤ 40
  r1 : 1 ≤ r
  r2 : r ≤ 20
  t1 : 1 ≤ t
  t2 : t ≤ 6
def onQ (m r t f c sent : Nat) (under : Bool) (ticks : Int) (gone : List Int) (dead : Nat) : Que := ⟨m, r, t, onL f c, sent, under, ticks, gone, dead⟩
structure On (m t N put f c sent done dead : Nat) (under : Bool) (ticks : Int) : Prop where
  hp : put + 1 = f + c
  hf : f = done + dead + 1
  hs : sent ≤ t
  hu : under = true → 0 < sent
  h0 : 0 ≤ ticks
  h1 : ticks ≤ 100000
  hc : c ≤ m
  hN : put ≤ N
section
variable {m r t N put f c sent done dead : Nat} {under : Bool} {ticks : Int}
theorem On.ok (h : On m t N put f c sent done dead under ticks) (hz : Siz m r t) (hN : N ≤ 1000) : QOk (onQ m r t f c sent under ticks [] dead) := by
  obtain ⟨h1, h2, h3, h4, h5, h6, h7, h8⟩ := h
  obtain ⟨a1, a2, a3, a4, a5, a6⟩ := hz
  constructor <;> simp only [onQ] <;> omega
theorem on_put_full (hz : m ≤ c) : (onQ m r t f c sent under ticks [] dead).put (advN (f + c)) = (onQ m r t f c sent under ticks [] dead, 200) := by
  unfold Que.put
  rw [if_pos]
  simp only [onQ, onL_len]
  omega
theorem on_put (hz : c < m) : (onQ m r t f c sent under ticks [] dead).put (advN (f + c)) = (onQ m r t f (c + 1) sent under ticks [] dead, 0) := by
  unfold Que.put
  rw [if_neg, if_neg]
  · simp only [onQ, onL_snoc]
  · simp only [onQ, List.any_eq_true, decide_eq_true_eq]
    rintro ⟨x, hx, h⟩
    unfold onL at hx
    obtain ⟨i, hi, rfl⟩ := List.mem_map.1 hx
    have := List.mem_range.1 hi
    simp only [advN] at h
    omega
  · simp only [onQ, onL_len]
    omega
theorem on_next (h : On m t N put f c sent done dead under ticks) (hz : Siz m r t) (hd : dead + 1 ≤ 10000) :
    ((onQ m r t f c sent under ticks [] dead).next true = (onQ m r t f c sent under ticks [] dead, none)) ∨
    (0 < c ∧ sent < t ∧ (onQ m r t f c sent under ticks [] dead).next true = (onQ m r t f c (sent + 1) true 0 [] dead, some (if sent = 0 then (txt f, []) else (txt f ++ rr, [])))) ∨
    (sent = t ∧ c = 1 ∧ (onQ m r t f c sent under ticks [] dead).next true = (onQ m r t (f + 1) 0 0 false 0 [(f : Int)] (dead + 1), none)) ∨
    (sent = t ∧ 2 ≤ c ∧ (onQ m r t f c sent under ticks [] dead).next true = (onQ m r t (f + 1) (c - 1) 1 true 0 [(f : Int)] (dead + 1), some (txt (f + 1), []))) := by
  obtain ⟨p1, p2, p3, p4, p5, p6, p7, p8⟩ := h
  obtain ⟨a1, a2, a3, a4, a5, a6⟩ := hz
  have hnext : ∀ Q : Que, Q.next true = Q.nextL Q.l := fun Q => by unfold Que.next; rw [if_pos rfl]
  have hmin : min ((dead : Int) + 1) 10000 = ((dead + 1 : Nat) : Int) := by omega
  cases c with
  | zero => left; rw [hnext]; rfl
  | succ c =>
    rw [hnext]
    have hl : (onQ m r t f (c + 1) sent under ticks [] dead).l = advN f :: onL (f + 1) c := onL_cons
    rw [hl]
    by_cases hidle : (onQ m r t f (c + 1) sent under ticks [] dead).under = true ∧ (onQ m r t f (c + 1) sent under ticks [] dead).ticks < (onQ m r t f (c + 1) sent under ticks [] dead).retry
    · left
      unfold Que.nextL
      rw [if_pos hidle]
    · right
      by_cases hst : (onQ m r t f (c + 1) sent under ticks [] dead).tries ≤ (onQ m r t f (c + 1) sent under ticks [] dead).sent
      · right
        have hst2 : (t : Int) ≤ sent := hst
        have hst' : sent = t := by omega
        have hdrop : Que.drop { onQ m r t f (c + 1) sent under ticks [] dead with gone := [] ++ [(advN f).num], dead := min ((dead : Int) + 1) 10000 } = onQ m r t (f + 1) c 0 false 0 [(f : Int)] (dead + 1) := by
          simp only [Que.drop, onQ, onL_cons, List.tail_cons, hmin, advN, List.nil_append]
          rfl
        have hstep : (onQ m r t f (c + 1) sent under ticks [] dead).nextL (advN f :: onL (f + 1) c) = (onQ m r t (f + 1) c 0 false 0 [(f : Int)] (dead + 1)).nextL (onL (f + 1) c) := by
          rw [← hdrop]
          show (if _ then _ else if _ then _ else _) = _
          rw [if_neg hidle, if_pos hst]
          rfl
        rw [hstep]
        cases c with
        | zero => left; exact ⟨hst', rfl, rfl⟩
        | succ c =>
          right
          refine ⟨hst', by omega, ?_⟩
          rw [onL_cons]
          unfold Que.nextL
          rw [if_neg (by simp [onQ]), if_neg (by simp only [onQ]; omega)]
          rfl
      · left
        have hst2 : ¬ (t : Int) ≤ sent := hst
        refine ⟨by omega, by omega, ?_⟩
        unfold Que.nextL
        rw [if_neg hidle, if_neg hst]
        congr 2
        by_cases h0 : sent = 0
        · subst h0; rfl
        · rw [if_neg h0, if_neg (by simp only [onQ]; omega)]
          rfl
theorem on_answers {n : Int} (hn : n = (f : Int)) : (onQ m r t f c sent under ticks [] dead).answers n = (under && decide (0 < c)) := by
  subst hn
  unfold Que.answers
  cases c with
  | zero => simp [onQ, onL]
  | succ c =>
    have : (onQ m r t f (c + 1) sent under ticks [] dead).l[0]? = some (advN f) := by simp only [onQ, onL_cons]; rfl
    rw [this]
    simp [onQ, advN]
theorem on_drop (hc : 0 < c) : (onQ m r t f c sent under ticks [] dead).drop = onQ m r t (f + 1) (c - 1) 0 false 0 [] dead := by
  cases c with
  | zero => omega
  | succ c => simp only [Que.drop, onQ, onL_cons, List.tail_cons]; rfl
end
end Go.Proofs.Ytgnepnjicmgkaaa
