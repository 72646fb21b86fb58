import Derived.Test.YtbfdebddoncfhaaPd16
/-! PendingTwice: the plain part. -/
namespace Go.Proofs.Ytbfdebddoncfhaa
open Go Go.RowKit Go.Proofs.Ytbfdebddoncfhaa.Sk
set_option linter.unusedVariables false
set_option linter.unusedSimpArgs false
set_option maxRecDepth 100000

/-- What a tick does: with these that are due, that comes out. -/
structure Tk (T : Tab) (ds : List Int) (R : Tab × List Pnd × List Pnd) : Prop where
  due : (T.P.filter fun e => decide (e.at_ = T.now + 1)).map Ent.v = ints ds
  run1 : Run1 (ticked T, []) ds
  run2 : Run2 ((ds.foldl pass1 (ticked T, [])).1, [], (ds.foldl pass1 (ticked T, [])).2) ds
  res : tickR T ds = R
theorem tk_none {T : Tab} (h : ∀ e ∈ T.P, e.at_ ≠ T.now + 1) : Tk T [] ({ T with now := T.now + 1 }, [], []) := by
  have h1 : T.P.filter (fun e => decide (e.at_ = T.now + 1)) = [] := List.filter_eq_nil_iff.2 fun e he => by simpa using h e he
  have h2 : T.P.filter (fun e => !decide (e.at_ = T.now + 1)) = T.P := List.filter_eq_self.2 fun e he => by simpa using h e he
  refine ⟨by rw [h1]; rfl, trivial, trivial, ?_⟩
  unfold tickR ticked
  simp only [List.foldl_nil, h2]
def en (t a v : Int) : Ent := ⟨t, a, .int .i64 v, rfl⟩
section
variable {m n now a b : Int} {p p2 : Pnd}
theorem tk_b (hm : 1 ≤ m ∧ m ≤ 40) (hn : 1 ≤ n ∧ n ≤ 40) (hnow : 0 ≤ now ∧ now ≤ 1000) (h : a = now + 1) : Tk ⟨3, m, n, 1, [⟨0, p, 1, false⟩], [en 1 a 0], now, 1⟩ [0] (⟨3, m, n, 1, [⟨0, p, 2, true⟩], [en 2 (now + 1 + n) 0], now + 1, 2⟩, [p], []) := by
  subst h
  have e1 : [(0 : Int)].foldl pass1 (ticked ⟨3, m, n, 1, [⟨0, p, 1, false⟩], [en 1 (now + 1) 0], now, 1⟩, []) = (⟨3, m, n, 1, [⟨0, p, 1, false⟩], [], now + 1, 1⟩, []) := by
    simp [ticked, pass1, findN, en]
  refine ⟨by simp [en, ints], by simp [Run1, ticked, findN], ?_, ?_⟩
  · rw [e1]
    refine ⟨fun e he => ?_, trivial⟩
    simp [findN] at he
    subst he
    refine ⟨rfl, ?_, by simp [Rising], by simp, by simp; omega, by simp; omega, by simp; omega, by simp; omega, by simp, by simp, by simp, by simp⟩
    intro A B hL x hx
    cases A with
    | nil => simp at hL; simp [hL] at hx
    | cons y A => simp at hL
  · unfold tickR
    rw [e1]
    simp [pass2, findN, marked, mark, latesL, en]
theorem tk_c2 (hm : 1 ≤ m ∧ m ≤ 40) (hn : 1 ≤ n ∧ n ≤ 40) (hnow : 0 ≤ now ∧ now ≤ 1000) (hb : b = now + 1) (ha : a ≠ now + 1) (h0 : 0 ≤ a) : Tk ⟨3, m, n, 2, [⟨0, p, 2, true⟩, ⟨1, p2, 3, false⟩], [en 2 a 0, en 3 b 1], now, 3⟩ [1] (⟨3, m, n, 2, [⟨0, p, 2, true⟩, ⟨1, p2, 4, true⟩], [en 2 a 0, en 4 (now + 1 + n) 1], now + 1, 4⟩, [p2], []) := by
  subst hb
  have e1 : [(1 : Int)].foldl pass1 (ticked ⟨3, m, n, 2, [⟨0, p, 2, true⟩, ⟨1, p2, 3, false⟩], [en 2 a 0, en 3 (now + 1) 1], now, 3⟩, []) = (⟨3, m, n, 2, [⟨0, p, 2, true⟩, ⟨1, p2, 3, false⟩], [en 2 a 0], now + 1, 3⟩, []) := by
    simp [ticked, pass1, findN, en, ha]
  refine ⟨by simp [en, ints, ha], by simp [Run1, ticked, findN], ?_, ?_⟩
  · rw [e1]
    refine ⟨fun e he => ?_, trivial⟩
    simp [findN] at he
    subst he
    refine ⟨rfl, ?_, by simp [Rising, en], by simp [en, h0], by simp; omega, by simp; omega, by simp; omega, by simp; omega, by simp, by simp, by simp, by simp⟩
    intro A B hL x hx
    match A, hL with
    | [], hL => simp at hL
    | [y], hL => simp at hL; simp [hL] at hx
    | y :: z :: A, hL => simp at hL
  · unfold tickR
    rw [e1]
    simp [pass2, findN, marked, mark, latesL, en]
theorem tk_c4 (hm : 1 ≤ m ∧ m ≤ 40) (hn : 1 ≤ n ∧ n ≤ 40) (hnow : 0 ≤ now ∧ now ≤ 1000) (ha : a = now + 1) (hb : b ≠ now + 1) : Tk ⟨3, m, n, 2, [⟨0, p, 2, true⟩, ⟨1, p2, 3, false⟩], [en 2 a 0, en 3 b 1], now, 3⟩ [0] (⟨3, m, n, 2, [⟨1, p2, 3, false⟩], [en 3 b 1], now + 1, 3⟩, [], [p]) := by
  subst ha
  have e1 : [(0 : Int)].foldl pass1 (ticked ⟨3, m, n, 2, [⟨0, p, 2, true⟩, ⟨1, p2, 3, false⟩], [en 2 (now + 1) 0, en 3 b 1], now, 3⟩, []) = (⟨3, m, n, 2, [⟨1, p2, 3, false⟩], [en 3 b 1], now + 1, 3⟩, [p]) := by
    simp [ticked, pass1, findN, en, hb, rem]
  refine ⟨by simp [en, ints, hb], by simp [Run1, ticked, findN], ?_, ?_⟩
  · rw [e1]
    exact ⟨fun e he => by simp [findN] at he, trivial⟩
  · unfold tickR
    rw [e1]
    simp [pass2, findN]
theorem tk_c5 (hm : 1 ≤ m ∧ m ≤ 40) (hn : 1 ≤ n ∧ n ≤ 40) (hnow : 0 ≤ now ∧ now ≤ 1000) (ha : a = now + 1) (hb : b = now + 1) : Tk ⟨3, m, n, 2, [⟨0, p, 2, true⟩, ⟨1, p2, 3, false⟩], [en 2 a 0, en 3 b 1], now, 3⟩ [0, 1] (⟨3, m, n, 2, [⟨1, p2, 4, true⟩], [en 4 (now + 1 + n) 1], now + 1, 4⟩, [p2], [p]) := by
  subst ha
  subst hb
  have e1 : [(0 : Int), 1].foldl pass1 (ticked ⟨3, m, n, 2, [⟨0, p, 2, true⟩, ⟨1, p2, 3, false⟩], [en 2 (now + 1) 0, en 3 (now + 1) 1], now, 3⟩, []) = (⟨3, m, n, 2, [⟨1, p2, 3, false⟩], [], now + 1, 3⟩, [p]) := by
    simp [ticked, pass1, findN, en, rem]
  refine ⟨by simp [en, ints], by simp [Run1, ticked, findN, pass1, rem], ?_, ?_⟩
  · rw [e1]
    refine ⟨fun e he => by simp [findN] at he, fun e he => ?_, trivial⟩
    have e2 : pass2 (⟨3, m, n, 2, [⟨1, p2, 3, false⟩], [], now + 1, 3⟩, [], [p]) 0 = (⟨3, m, n, 2, [⟨1, p2, 3, false⟩], [], now + 1, 3⟩, [], [p]) := by simp [pass2, findN]
    rw [e2] at he ⊢
    simp [findN] at he
    subst he
    refine ⟨rfl, ?_, by simp [Rising], by simp, by simp; omega, by simp; omega, by simp; omega, by simp; omega, by simp, by simp, by simp, by simp⟩
    intro A B hL x hx
    cases A with
    | nil => simp at hL; simp [hL] at hx
    | cons y A => simp at hL
  · unfold tickR
    rw [e1]
    simp [pass2, findN, marked, mark, latesL, en]
theorem tk_c6 (hm : 1 ≤ m ∧ m ≤ 40) (hn : 1 ≤ n ∧ n ≤ 40) (hnow : 0 ≤ now ∧ now ≤ 1000) (ha : a = now + 1) (hb : b ≠ now + 1) : Tk ⟨3, m, n, 2, [⟨0, p, 2, true⟩, ⟨1, p2, 4, true⟩], [en 2 a 0, en 4 b 1], now, 4⟩ [0] (⟨3, m, n, 2, [⟨1, p2, 4, true⟩], [en 4 b 1], now + 1, 4⟩, [], [p]) := by
  subst ha
  have e1 : [(0 : Int)].foldl pass1 (ticked ⟨3, m, n, 2, [⟨0, p, 2, true⟩, ⟨1, p2, 4, true⟩], [en 2 (now + 1) 0, en 4 b 1], now, 4⟩, []) = (⟨3, m, n, 2, [⟨1, p2, 4, true⟩], [en 4 b 1], now + 1, 4⟩, [p]) := by
    simp [ticked, pass1, findN, en, hb, rem]
  refine ⟨by simp [en, ints, hb], by simp [Run1, ticked, findN], ?_, ?_⟩
  · rw [e1]
    exact ⟨fun e he => by simp [findN] at he, trivial⟩
  · unfold tickR
    rw [e1]
    simp [pass2, findN]
end
theorem tick_k {w0 w : World} {F : List Chunk} {k g : Nat} {T : Tab} {ds : List Int} {R : Tab × List Pnd × List Pnd} (hS : Sat w0 w (tabC k g T :: F)) (hT : Tk T ds R) (hR : Rising T.P T.last) (hn0 : 0 ≤ T.now) (hn1 : T.now + 1 ≤ 4611686018427387904) (hroom : (T.L.length + 1) * 168 ≤ 140737488355328) (hroomP : (T.P.length + 1) * 24 ≤ 140737488355328) (hroomD : (2 * ds.length + 2) * 168 ≤ 140737488355328) :
    Calls Try.prog 16 #[.pointer (some ⟨g, 0, none⟩)] w fun e w' => ∃ A c A' c', e = .returned (.tuple #[.slice A R.2.1.length c, .slice A' R.2.2.length c']) ∧
      Sat w0 w' (listC k (.slice A R.2.1.length c) R.2.1 :: listC k (.slice A' R.2.2.length c') R.2.2 :: tabC k g R.1 :: F) := by
  rw [← hT.res]
  exact tick_c hS hR hn0 hn1 hroom hroomP hroomD hT.due hT.run1 hT.run2
end Go.Proofs.Ytbfdebddoncfhaa
