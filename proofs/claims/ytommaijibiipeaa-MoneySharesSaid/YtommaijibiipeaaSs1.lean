import Derived.Test.YtommaijibiipeaaFc
import Derived.Test.YtommaijibiipeaaSk22
/-! The sort: rows of pairs, the order, cmp, swapRange. -/
namespace Go.Proofs.Ytommaijibiipeaa
open Go Go.RowKit Go.Proofs.Ytommaijibiipeaa.Sk
set_option linter.unusedVariables false
set_option linter.unusedSimpArgs false
set_option maxRecDepth 100000

/-- A part: its place, its rest. -/
abbrev Prt := Int × Int
def parts (xs : List Prt) : List Value := xs.flatMap fun p => [.int .i64 p.1, .int .i64 p.2]
theorem parts_len (xs : List Prt) : (parts xs).length = xs.length * 2 := by
  induction xs with
  | nil => rfl
  | cons x r ih =>
    have e : parts (x :: r) = .int .i64 x.1 :: .int .i64 x.2 :: parts r := rfl
    rw [e, List.length_cons, List.length_cons, ih, List.length_cons]
    omega
theorem parts_app (xs ys : List Prt) : parts (xs ++ ys) = parts xs ++ parts ys := by simp [parts]
theorem get_mid {α : Type} (U V : List α) (x : α) : (U ++ x :: V)[U.length]? = some x := by simp
theorem set_mid {α : Type} (U V : List α) (x y : α) : (U ++ x :: V).set U.length y = U ++ y :: V := by simp
theorem parts_at {xs : List Prt} {k : Nat} {p : Prt} (h : xs[k]? = some p) : ∀ j v, [Value.int .i64 p.1, .int .i64 p.2][j]? = some v → (parts xs)[k * 2 + j]? = some v := by
  intro j v hj
  have hk := (List.getElem?_eq_some_iff.1 h).1
  have e : xs = xs.take k ++ p :: xs.drop (k + 1) := by
    have : p = xs[k] := by rw [List.getElem?_eq_getElem hk] at h; injection h with h; exact h.symm
    rw [this, ← List.drop_eq_getElem_cons, List.take_append_drop]
  have hl : (parts (xs.take k)).length = k * 2 := by rw [parts_len, List.length_take]; omega
  rw [e, parts_app]
  rw [List.getElem?_append_right (by omega), hl, show k * 2 + j - k * 2 = j by omega]
  have hj2 : j < 2 := by have := (List.getElem?_eq_some_iff.1 hj).1; simpa using this
  have e2 : parts (p :: xs.drop (k + 1)) = [Value.int .i64 p.1, .int .i64 p.2] ++ parts (xs.drop (k + 1)) := rfl
  rw [e2, List.getElem?_append_left (by simpa using hj2)]
  exact hj
theorem parts_set {xs : List Prt} {k : Nat} {p : Prt} (h : k < xs.length) : (parts xs).take (k * 2) ++ [.int .i64 p.1, .int .i64 p.2] ++ (parts xs).drop (k * 2 + 2) = parts (xs.set k p) := by
  have e : xs = xs.take k ++ xs[k] :: xs.drop (k + 1) := by rw [← List.drop_eq_getElem_cons, List.take_append_drop]
  have hlt : (xs.take k).length = k := by rw [List.length_take]; omega
  have hl : (parts (xs.take k)).length = k * 2 := by rw [parts_len, hlt]
  have e1 : parts xs = parts (xs.take k) ++ ([Value.int .i64 xs[k].1, .int .i64 xs[k].2] ++ parts (xs.drop (k + 1))) := by
    conv => lhs; rw [e]
    rw [parts_app]
    rfl
  have e2 : xs.set k p = xs.take k ++ p :: xs.drop (k + 1) := by
    conv => lhs; rw [e]
    have := set_mid (xs.take k) (xs.drop (k + 1)) xs[k] p
    rw [hlt] at this
    exact this
  rw [e2, parts_app, e1, List.take_left' hl, ← List.append_assoc (parts (xs.take k)), List.drop_left' (by simp [hl])]
  simp [parts]
/-- The order: more rest ahead; of one rest, the smaller place ahead. -/
def lt (p q : Prt) : Prop := q.2 < p.2 ∨ q.2 = p.2 ∧ p.1 < q.1
def prow (g n c : Nat) (xs : List Prt) : Chunk := rowC 52 2 (.slice (some ⟨g, 0, none⟩) n c) n (parts xs)
theorem prow_len {w0 w : World} {C : List Chunk} {g n c : Nat} {xs : List Prt} (h : Sat w0 w (prow g n c xs :: C)) : xs.length = n := by
  have := row_len h
  rw [parts_len] at this
  omega
theorem cmp_c {w0 w : World} {C : List Chunk} {p q : Prt} (hS : Sat w0 w C) (h1 : 0 ≤ p.2 ∧ p.2 ≤ 4611686018427387904) (h2 : 0 ≤ q.2 ∧ q.2 ≤ 4611686018427387904) :
    Calls Try.prog 24 #[.agg #[.int .i64 p.1, .int .i64 p.2], .agg #[.int .i64 q.1, .int .i64 q.2]] w fun e w' => e = .returned (.int .i64 (q.2 - p.2)) ∧ Sat w0 w' C := by
  refine enter Try.func24 rfl Try.ntmps24 (Nat.le_of_ble_eq_true rfl) fun a hF => ?_
  refine wp_seq_k fun K0 hK0 => ?_
  -- region 0
  refine wp_region_lit ?_
  refine s_newp hF rfl rfl rfl (ef_box (cs := #[_, _]) (hF.ev rfl) rfl) hS ?_; clear hF hS; intro b2 w hS a hF
  refine s_newp hF rfl rfl rfl (ef_box (cs := #[_, _]) (hF.ev rfl) rfl) hS ?_; clear hF hS; intro b3 w hS a hF
  refine s_pu hF rfl rfl rfl (pu_assign (hF.ev rfl)) ?_; clear hF; intro a hF
  refine s_done ?_
  refine hK0 _ _ ?_; clear hK0
  refine wp_seq_k fun K1 hK1 => ?_
  -- region 1
  refine wp_region_lit ?_
  refine s_pu hF rfl rfl rfl ((by first | exact pu_field fd52_1 (hF.ev rfl) | exact pu_fieldA fd52_1 (hF.ev rfl))) ?_; clear hF; intro a hF
  refine s_rd hF rfl rfl rfl (by first | exact rd_load pl3 (hF.ev rfl) (by assumption) | exact rd_load pl3 (hF.ev rfl) (hS.cellL (i := 0) rfl rfl) | exact rd_load pl3 (hF.ev rfl) (hS.cellL (i := 1) rfl rfl) | exact rd_load pl3 (hF.ev rfl) (hS.cellL (i := 2) rfl rfl) | exact rd_load pl3 (hF.ev rfl) (hS.cell (i := 0) rfl (by assumption)) | exact rd_load pl3 (hF.ev rfl) (hS.cell (i := 1) rfl (by assumption)) | exact rd_load pl3 (hF.ev rfl) (hS.cell (i := 2) rfl (by assumption)) | exact rd_load pl3 (hF.ev rfl) (row_at (i := 0) hS rfl (by first | assumption | rfl)) | exact rd_load pl3 (hF.ev rfl) (row_at0 (i := 0) hS rfl (by first | assumption | rfl)) | exact rd_load pl3 (hF.ev rfl) (row_at (i := 1) hS rfl (by first | assumption | rfl)) | exact rd_load pl3 (hF.ev rfl) (row_at0 (i := 1) hS rfl (by first | assumption | rfl)) | exact rd_load pl3 (hF.ev rfl) (row_at (i := 2) hS rfl (by first | assumption | rfl)) | exact rd_load pl3 (hF.ev rfl) (row_at0 (i := 2) hS rfl (by first | assumption | rfl))) ?_; clear hF; intro a hF
  refine s_pu hF rfl rfl rfl ((by first | exact pu_field fd52_1 (hF.ev rfl) | exact pu_fieldA fd52_1 (hF.ev rfl))) ?_; clear hF; intro a hF
  refine s_rd hF rfl rfl rfl (by first | exact rd_load pl3 (hF.ev rfl) (by assumption) | exact rd_load pl3 (hF.ev rfl) (hS.cellL (i := 0) rfl rfl) | exact rd_load pl3 (hF.ev rfl) (hS.cellL (i := 1) rfl rfl) | exact rd_load pl3 (hF.ev rfl) (hS.cellL (i := 2) rfl rfl) | exact rd_load pl3 (hF.ev rfl) (hS.cell (i := 0) rfl (by assumption)) | exact rd_load pl3 (hF.ev rfl) (hS.cell (i := 1) rfl (by assumption)) | exact rd_load pl3 (hF.ev rfl) (hS.cell (i := 2) rfl (by assumption)) | exact rd_load pl3 (hF.ev rfl) (row_at (i := 0) hS rfl (by first | assumption | rfl)) | exact rd_load pl3 (hF.ev rfl) (row_at0 (i := 0) hS rfl (by first | assumption | rfl)) | exact rd_load pl3 (hF.ev rfl) (row_at (i := 1) hS rfl (by first | assumption | rfl)) | exact rd_load pl3 (hF.ev rfl) (row_at0 (i := 1) hS rfl (by first | assumption | rfl)) | exact rd_load pl3 (hF.ev rfl) (row_at (i := 2) hS rfl (by first | assumption | rfl)) | exact rd_load pl3 (hF.ev rfl) (row_at0 (i := 2) hS rfl (by first | assumption | rfl))) ?_; clear hF; intro a hF
  refine s_pu hF rfl rfl rfl ((by first | exact pu_sub64 (hF.ev rfl) (hF.ev rfl) (by omega) | exact pu_sub (hF.ev rfl) (hF.ev rfl))) ?_; clear hF; intro a hF
  refine s_pu hF rfl rfl rfl (pu_assign (hF.ev rfl)) ?_; clear hF; intro a hF
  refine s_done ?_
  refine hK1 _ _ ?_; clear hK1
  refine wp_ret ?_
  refine fin1 Try.results24 hF rfl ?_
  exact ⟨rfl, hS.tail.tail⟩
theorem swapRange_c {w0 w : World} {C : List Chunk} {g n c : Nat} {P A Q B S : List Prt} {fv : Value} (hS : Sat w0 w (prow g n c (P ++ A ++ Q ++ B ++ S) :: C)) (hAB : A.length = B.length) (hn : n ≤ 140737488355328) :
    Calls Try.prog 54 #[.slice (some ⟨g, 0, none⟩) n c, .int .i64 P.length, .int .i64 (P ++ A ++ Q).length, .int .i64 A.length, fv] w fun e w' => e = .returned (.tuple #[]) ∧ Sat w0 w' (prow g n c (P ++ B ++ Q ++ A ++ S) :: C) := by
  have hlen := prow_len hS
  simp only [List.length_append] at hlen
  refine enter Try.func54 rfl Try.ntmps54 (Nat.le_of_ble_eq_true rfl) fun a hF => ?_
  refine wp_seq_k fun K0 hK0 => ?_
  -- region 0
  refine wp_region_lit ?_
  refine s_pu hF rfl rfl rfl (pu_assign (hF.ev rfl)) ?_; clear hF; intro a hF
  refine s_done ?_
  refine hK0 _ _ ?_; clear hK0
  refine wp_block ?_
  refine wp_ind (fun j a w => ∃ (A1 A2 B1 B2 : List Prt), j = A2.length ∧ A = A1 ++ A2 ∧ B = B1 ++ B2 ∧ A1.length = B1.length ∧
    Fr a 38 [(0, .slice (some ⟨g, 0, none⟩) n c), (1, .int .i64 P.length), (2, .int .i64 (P ++ A ++ Q).length), (3, .int .i64 A.length), (10, .int .i64 A1.length)] ∧ Sat w0 w (prow g n c (P ++ (B1 ++ A2) ++ Q ++ (A1 ++ B2) ++ S) :: C)) A.length
    ⟨[], A, [], B, rfl, rfl, rfl, rfl, hF.sub ⟨rfl, rfl, rfl, rfl, rfl, trivial⟩, hS⟩ ?_
  clear hS hF
  rintro j a w ⟨A1, A2, B1, B2, rfl, rfl, rfl, hl, hF, hS⟩
  refine wp_seq_k fun K1 hK1 => ?_
  refine wp_seq_k fun K2 hK2 => ?_
  -- region 1
  refine wp_region_lit ?_
  refine s_pu hF rfl rfl rfl (pu_move (hF.ev rfl)) ?_; clear hF; intro a hF
  refine s_pu hF rfl rfl rfl (pu_move (hF.ev rfl)) ?_; clear hF; intro a hF
  refine s_pu hF rfl rfl rfl (pu_lss (hF.ev rfl) (hF.ev rfl)) ?_; clear hF; intro a hF
  refine s_done ?_
  refine hK2 _ _ ?_; clear hK2
  refine wp_cond_split (hF.ev rfl) (fun hc0 => ?_) (fun hc0 => ?_)
  · -- cond 0 true
    try simp only [decide_eq_true_eq, decide_eq_false_iff_not, Bool.not_eq_true', Bool.not_eq_false', Int.not_lt, Int.not_le, ne_eq, Decidable.not_not, Bool.or_eq_true, Bool.or_eq_false_iff, Bool.and_eq_true, Bool.and_eq_false_imp] at hc0
    simp only [List.length_append] at hc0 hAB hlen
    obtain ⟨x, A3, rfl⟩ : ∃ x A3, A2 = x :: A3 := by
      cases A2 with
      | nil => simp at hc0
      | cons x A3 => exact ⟨x, A3, rfl⟩
    obtain ⟨y, B3, rfl⟩ : ∃ y B3, B2 = y :: B3 := by
      cases B2 with
      | nil => simp at hAB; omega
      | cons y B3 => exact ⟨y, B3, rfl⟩
    simp only [List.length_cons] at hAB hlen
    have h1 : (P ++ (B1 ++ x :: A3) ++ Q ++ (A1 ++ y :: B3) ++ S)[(P ++ B1).length]? = some x := by
      rw [show P ++ (B1 ++ x :: A3) ++ Q ++ (A1 ++ y :: B3) ++ S = (P ++ B1) ++ x :: (A3 ++ Q ++ (A1 ++ y :: B3) ++ S) by simp]
      exact get_mid _ _ _
    have h2 : (P ++ (B1 ++ x :: A3) ++ Q ++ (A1 ++ y :: B3) ++ S)[(P ++ (B1 ++ x :: A3) ++ Q ++ A1).length]? = some y := by
      rw [show P ++ (B1 ++ x :: A3) ++ Q ++ (A1 ++ y :: B3) ++ S = (P ++ (B1 ++ x :: A3) ++ Q ++ A1) ++ y :: (B3 ++ S) by simp]
      exact get_mid _ _ _
    have k1 : ((P.length : Int) + (A1.length : Int)) = ((P ++ B1).length : Nat) := by simp; omega
    have k2 : (((P ++ (A1 ++ x :: A3) ++ Q).length : Int) + (A1.length : Int)) = ((P ++ (B1 ++ x :: A3) ++ Q ++ A1).length : Nat) := by simp; omega
    have b1 : (P ++ B1).length < n := by simp; omega
    have b2 : (P ++ (B1 ++ x :: A3) ++ Q ++ A1).length < n := by simp; omega
    have hxl : (P ++ (B1 ++ x :: A3) ++ Q ++ (A1 ++ y :: B3) ++ S).length = n := by simp; omega
    unfold prow at hS
    obtain ⟨kk1, hkk1⟩ : ∃ q, q = (P ++ B1).length := ⟨_, rfl⟩
    obtain ⟨kk2, hkk2⟩ : ∃ q, q = (P ++ (B1 ++ x :: A3) ++ Q ++ A1).length := ⟨_, rfl⟩
    rw [← hkk1] at h1 k1 b1
    rw [← hkk2] at h2 k2 b2
    generalize hxs : P ++ (B1 ++ x :: A3) ++ Q ++ (A1 ++ y :: B3) ++ S = xs at hS h1 h2 hxl
    refine wp_skip ?_
    refine hK1 _ _ ?_; clear hK1
    refine wp_seq_k fun K3 hK3 => ?_
    refine wp_block ?_
    -- region 3
    refine d_start (S := (fun w => Sat w0 w _)) (ds := [21, 23]) (ord := [(0, .pu), (1, .pu), (2, .pu), (3, .pu), (4, .pu), (5, .pu), (6, .pu), (7, .pu), (8, .pu), (9, .pu), (10, .pu), (11, .pu), (12, .pu), (13, .tk), (14, .pu), (15, .pu), (16, .pu), (17, .pu), (18, .pu), (19, .tk), (20, .pu), (21, .ls), (22, .pu), (23, .ls)]) mixed ⟨by kernel_rfl, fun _ d _ _ _ h => by cases d <;> exact h⟩ hS.drew fun hD => ?_
    replace hS := hS.drew; generalize w.drew = w at hS ⊢
    refine d_pu hD hF rfl rfl rfl rfl rfl (pu_move (hF.ev rfl)) ?_; clear hF; intro a hF
    refine d_pu hD hF rfl rfl rfl rfl rfl (pu_move (hF.ev rfl)) ?_; clear hF; intro a hF
    refine d_pu hD hF rfl rfl rfl rfl rfl (pu_move (hF.ev rfl)) ?_; clear hF; intro a hF
    refine d_pu hD hF rfl rfl rfl rfl rfl ((by first | exact pu_add64 (hF.ev rfl) (hF.ev rfl) (by omega) | exact pu_add (hF.ev rfl) (hF.ev rfl))) ?_; clear hF; intro a hF
    refine d_pu hD hF rfl rfl rfl rfl rfl (pu_move (hF.ev rfl)) ?_; clear hF; intro a hF
    refine d_pu hD hF rfl rfl rfl rfl rfl (pu_move (hF.ev rfl)) ?_; clear hF; intro a hF
    refine d_pu hD hF rfl rfl rfl rfl rfl (pu_move (hF.ev rfl)) ?_; clear hF; intro a hF
    refine d_pu hD hF rfl rfl rfl rfl rfl ((by first | exact pu_add64 (hF.ev rfl) (hF.ev rfl) (by omega) | exact pu_add (hF.ev rfl) (hF.ev rfl))) ?_; clear hF; intro a hF
    refine d_pu hD hF rfl rfl rfl rfl rfl (pu_move (hF.ev rfl)) ?_; clear hF; intro a hF
    refine d_pu hD hF rfl rfl rfl rfl rfl (pu_move (hF.ev rfl)) ?_; clear hF; intro a hF
    refine d_pu hD hF rfl rfl rfl rfl rfl (pu_move (hF.ev rfl)) ?_; clear hF; intro a hF
    refine d_pu hD hF rfl rfl rfl rfl rfl ((by first | exact pu_add64 (hF.ev rfl) (hF.ev rfl) (by omega) | exact pu_add (hF.ev rfl) (hF.ev rfl))) ?_; clear hF; intro a hF
    rw [k2] at hF
    refine d_pu hD hF rfl rfl rfl rfl rfl ((by first | exact pu_elem sl50 (hF.ev rfl) (hF.ev rfl) (by first | omega | simp) (by first | omega | (simp; done) | (simp; omega)) | exact pu_elemA sl50 (hF.ev rfl) (hF.ev rfl) (by omega) (by omega))) ?_; clear hF; intro a hF
    refine d_rd hD hF rfl rfl rfl rfl rfl hS (fun w hS => rd_loadN ag52 (hF.ev rfl) rfl (row_load (i := 0) hS rfl (by omega) (parts_at h2))) ?_; clear hF; intro a hF
    refine d_pu hD hF rfl rfl rfl rfl rfl (pu_move (hF.ev rfl)) ?_; clear hF; intro a hF
    refine d_pu hD hF rfl rfl rfl rfl rfl (pu_move (hF.ev rfl)) ?_; clear hF; intro a hF
    refine d_pu hD hF rfl rfl rfl rfl rfl (pu_move (hF.ev rfl)) ?_; clear hF; intro a hF
    refine d_pu hD hF rfl rfl rfl rfl rfl ((by first | exact pu_add64 (hF.ev rfl) (hF.ev rfl) (by omega) | exact pu_add (hF.ev rfl) (hF.ev rfl))) ?_; clear hF; intro a hF
    rw [k1] at hF
    refine d_pu hD hF rfl rfl rfl rfl rfl ((by first | exact pu_elem sl50 (hF.ev rfl) (hF.ev rfl) (by first | omega | simp) (by first | omega | (simp; done) | (simp; omega)) | exact pu_elemA sl50 (hF.ev rfl) (hF.ev rfl) (by omega) (by omega))) ?_; clear hF; intro a hF
    refine d_rd hD hF rfl rfl rfl rfl rfl hS (fun w hS => rd_loadN ag52 (hF.ev rfl) rfl (row_load (i := 0) hS rfl (by omega) (parts_at h1))) ?_; clear hF; intro a hF
    refine d_pu hD hF rfl rfl rfl rfl rfl ((by first | exact pu_elem sl50 (hF.ev rfl) (hF.ev rfl) (by first | omega | simp) (by first | omega | (simp; done) | (simp; omega)) | exact pu_elemA sl50 (hF.ev rfl) (hF.ev rfl) (by omega) (by omega))) ?_; clear hF; intro a hF
    refine l_rstoreN (k := kk1) (vs := [_, _]) 0 hD hF rfl rfl rfl (hF.ev rfl) (hF.ev rfl) hS rfl rfl sz52 rfl rfl b1 ?_
    clear hS; intro w hS; (try simp only [upd, del] at hS)
    rw [parts_set (by omega)] at hS
    refine d_pu hD hF rfl rfl rfl rfl rfl ((by first | exact pu_elem sl50 (hF.ev rfl) (hF.ev rfl) (by first | omega | simp) (by first | omega | (simp; done) | (simp; omega)) | exact pu_elemA sl50 (hF.ev rfl) (hF.ev rfl) (by omega) (by omega))) ?_; clear hF; intro a hF
    refine l_rstoreN (k := kk2) (vs := [_, _]) 0 hD hF rfl rfl rfl (hF.ev rfl) (hF.ev rfl) hS rfl rfl sz52 rfl rfl b2 ?_
    clear hS; intro w hS; (try simp only [upd, del] at hS)
    rw [parts_set (by rw [List.length_set]; omega)] at hS
    refine d_done hD rfl ?_; clear hD
    refine blk_normal ?_
    refine hK3 _ _ ?_; clear hK3
    -- region 2
    refine wp_region_lit ?_
    refine s_pu hF rfl rfl rfl (pu_move (hF.ev rfl)) ?_; clear hF; intro a hF
    refine s_pu hF rfl rfl rfl ((by first | exact pu_add64 (hF.ev rfl) (hF.ev rfl) (by omega) | exact pu_add (hF.ev rfl) (hF.ev rfl))) ?_; clear hF; intro a hF
    refine s_pu hF rfl rfl rfl (pu_assign (hF.ev rfl)) ?_; clear hF; intro a hF
    refine s_done ?_
    refine ⟨_, by simp, A1 ++ [x], A3, B1 ++ [y], B3, rfl, by simp, by simp, by simp [hl], ?_, ?_⟩
    · have := hF.sub (L' := [(0, .slice (some ⟨g, 0, none⟩) n c), (1, .int .i64 P.length), (2, .int .i64 (P ++ (A1 ++ x :: A3) ++ Q).length), (3, .int .i64 (A1 ++ x :: A3).length), (10, .int .i64 ((A1.length : Int) + 1))]) ⟨rfl, rfl, rfl, rfl, rfl, trivial⟩
      simpa using this
    · have e1 : ((P ++ (B1 ++ x :: A3) ++ Q ++ (A1 ++ y :: B3) ++ S).set kk1 y).set kk2 x = P ++ (B1 ++ [y] ++ A3) ++ Q ++ (A1 ++ [x] ++ B3) ++ S := by
        rw [show P ++ (B1 ++ x :: A3) ++ Q ++ (A1 ++ y :: B3) ++ S = (P ++ B1) ++ x :: (A3 ++ Q ++ (A1 ++ y :: B3) ++ S) by simp, hkk1, set_mid]
        have hk2 : kk2 = (P ++ B1 ++ y :: (A3 ++ Q ++ A1)).length := by rw [hkk2]; simp <;> omega
        rw [show (P ++ B1) ++ y :: (A3 ++ Q ++ (A1 ++ y :: B3) ++ S) = (P ++ B1 ++ y :: (A3 ++ Q ++ A1)) ++ y :: (B3 ++ S) by simp, hk2, set_mid]
        simp
      rw [← hxs, e1] at hS
      exact hS
  · -- cond 0 false
    try simp only [decide_eq_true_eq, decide_eq_false_iff_not, Bool.not_eq_true', Bool.not_eq_false', Int.not_lt, Int.not_le, ne_eq, Decidable.not_not, Bool.or_eq_true, Bool.or_eq_false_iff, Bool.and_eq_true, Bool.and_eq_false_imp] at hc0
    refine wp_exit ?_
    refine then_exit ?_
    refine then_exit ?_
    refine blk_exit ?_
    refine fin0 Try.results54 hF ?_
    simp only [List.length_append] at hc0
    have hA2 : A2 = [] := List.eq_nil_of_length_eq_zero (by omega)
    have hB2 : B2 = [] := List.eq_nil_of_length_eq_zero (by subst hA2; simp at hAB; omega)
    subst hA2
    subst hB2
    rw [List.append_nil, List.append_nil] at hS
    rw [List.append_nil, List.append_nil]
    exact ⟨rfl, hS⟩
end Go.Proofs.Ytommaijibiipeaa
