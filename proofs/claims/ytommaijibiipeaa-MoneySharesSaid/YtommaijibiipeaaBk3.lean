import Derived.Test.YtommaijibiipeaaBk2
import Derived.Test.YtommaijibiipeaaSk26
/-! The book settles. -/
namespace Go.Proofs.Ytommaijibiipeaa
open Go Go.RowKit Go.Proofs.Ytommaijibiipeaa.Sk
set_option linter.unusedVariables false
set_option linter.unusedSimpArgs false
set_option maxRecDepth 100000

theorem rd_FR {i j : Nat} {w0 w : World} {F : List Chunk} {fs : List (Value × List Int)} {A : Option Addr} {n c : Nat} {zs : List Int} (hS : Sat w0 w F) (hi : nth F i = some (FR fs)) (hj : fs[j]? = some (.slice A n c, zs)) (hn : zs.length = n) : Reads w0 F A n zs := by
  subst hn
  have h := fr_out (hS.front i hi) hj
  have hr := rd_frow (i := 0) h rfl
  exact reads_up hr fun w h => fr_out (h.front i hi) hj
/-- What the slice at a place of the list of rows looks like. -/
theorem fr_val {i j : Nat} {w0 w : World} {F : List Chunk} {fs : List (Value × List Int)} {p : Value × List Int} (hS : Sat w0 w F) (hi : nth F i = some (FR fs)) (hj : fs[j]? = some p) : ∃ A c, p.1 = .slice A p.2.length c := by
  obtain ⟨A, c, e, _⟩ := row_val (fr_out (hS.front i hi) hj)
  exact ⟨A, c, e⟩
theorem fr_at {fs : List (Value × List Int)} {j : Nat} {p : Value × List Int} (hj : fs[j]? = some p) : (fs.map (·.1))[j]? = some p.1 := by rw [List.getElem?_map, hj]; rfl
/-- The first i of the rows are full of their marks. -/
structure Filled (q : Nat) (fs gs : List (Value × List Int)) (i : Nat) : Prop where
  len : gs.length = fs.length
  val : gs.map (·.1) = fs.map (·.1)
  cnt : ∀ (j : Nat) (p p' : Value × List Int), fs[j]? = some p → gs[j]? = some p' → p'.2.length = p.2.length
  full : ∀ (j : Nat) (p : Value × List Int), j < i → gs[j]? = some p → p.2 = List.replicate p.2.length (-100 - (q : Int) - (j : Int))
theorem Filled.none {q : Nat} {fs : List (Value × List Int)} : Filled q fs fs 0 := ⟨rfl, rfl, fun j p p' h h' => by rw [h] at h'; cases h'; rfl, fun j p h => by omega⟩
theorem Filled.step {q i : Nat} {fs gs : List (Value × List Int)} {p : Value × List Int} (h : Filled q fs gs i) (hp : gs[i]? = some p) : Filled q fs (gs.set i (p.1, List.replicate p.2.length (-100 - (q : Int) - (i : Int)))) (i + 1) := by
  have hi := (List.getElem?_eq_some_iff.1 hp).1
  refine ⟨by rw [List.length_set, h.len], ?_, ?_, ?_⟩
  · rw [← h.val, List.map_set]
    apply List.ext_getElem?
    intro j
    rw [List.getElem?_set]
    split
    · rename_i e; subst e; simp [hi, (List.getElem?_eq_some_iff.1 hp).2]
    · rfl
  · intro j a b ha hb
    rw [List.getElem?_set] at hb
    split at hb
    · rename_i e
      subst e
      cases hb
      rw [List.length_replicate]
      exact h.cnt _ _ _ ha hp
    · exact h.cnt _ _ _ ha hb
  · intro j a hj ha
    rw [List.getElem?_set] at ha
    split at ha
    · rename_i e
      subst e
      cases ha
      simp
    · rename_i e
      exact h.full j a (by omega) ha
theorem marks_split {w0 w : World} {C : List Chunk} {l : List Value} {A : Option Addr} {n c j0 q : Nat} {m : Int} (h : Sat w0 w (rowC 3 1 (.slice A n c) n (ints (List.replicate n m)) :: marksC (l.take j0) :: C)) (hn : n ≤ 1099511627776) (hj : j0 ≤ l.length) (hq : 12 * q ≤ j0) (hl : l.length ≤ 12 * q + 12) (hm : m = -100 - (q : Int))
    (hnew : ∀ j v, j0 ≤ j → l[j]? = some v → ∃ n' c', v = .slice A n' c' ∧ n' ≤ n) : Sat w0 w (marksC l :: C) := by
  have h1 := marks_retire (news := l.drop j0) h hn (fun j v hv => by
    rw [List.getElem?_drop] at hv
    have hlt := (List.getElem?_eq_some_iff.1 hv).1
    refine ⟨?_, hnew _ v (by omega) hv⟩
    rw [List.length_take, Nat.min_eq_left hj, hm]
    unfold mk
    rw [show (j0 + j) / 12 = q by omega])
  rwa [List.take_append_drop] at h1
theorem frow_rep {v : Value} {k : Nat} {m : Int} : rowC 3 1 v k (ints (List.replicate k m)) = fRow (v, List.replicate k m) := by unfold fRow; rw [List.length_replicate]
theorem fill_one {m : Int} {k n : Nat} {zs : List Int} (hn : zs.length = n) (hk : k < n) : (List.replicate k m ++ zs.drop k).set k m = List.replicate (k + 1) m ++ zs.drop (k + 1) := by
  rw [List.set_append, if_neg (by simp), List.length_replicate, Nat.sub_self, List.drop_eq_getElem_cons (by omega), List.set_cons_zero, List.replicate_succ', List.append_assoc]
  rfl
section
variable {w0 w : World} {C : List Chunk} {b : Nat} {fs ws : List (Value × List Int)} {L : List Value} {q : Nat}
set_option maxHeartbeats 1000000 in
theorem settles_c (hS : Sat w0 w (bkC b fs ws L :: C)) (hsame : fs.map (·.2) = ws.map (·.2)) (hb : ∀ p ∈ fs, p.2.length ≤ 1000000) (hq : L.length = 12 * q) (hf : fs.length ≤ 1000000) (hL : q ≤ 1000000) :
    Calls Try.prog 16 #[.pointer (some ⟨b, 0, none⟩)] w fun e w' => ∃ L', L'.length = L.length + 12 * fs.length ∧ e = .returned (.bool true) ∧ Sat w0 w' (bkC b [] [] L' :: C) := by
  have hwl : ws.length = fs.length := by
    have := congrArg List.length hsame
    simpa using this.symm
  obtain ⟨Af, cf, Aw, cw, Al, cl, hS⟩ := bk_open hS
  refine enter Try.func16 rfl Try.ntmps16 (Nat.le_of_ble_eq_true rfl) fun a hF => ?_
  refine wp_seq_k fun K0 hK0 => ?_
  -- region 0
  refine wp_region_lit ?_
  refine s_pu hF rfl rfl rfl (pu_assign (hF.ev rfl)) ?_; clear hF; intro a hF
  refine s_done ?_
  refine hK0 _ _ ?_; clear hK0
  refine wp_seq_k fun K1 hK1 => ?_
  refine wp_seq_k fun K2 hK2 => ?_
  -- region 1
  refine wp_region_lit ?_
  refine s_pu hF rfl rfl rfl (pu_assign (hF.ev rfl)) ?_; clear hF; intro a hF
  refine s_done ?_
  refine hK2 _ _ ?_; clear hK2
  refine wp_block ?_
  refine wp_ind (fun j a w => ∃ (i : Nat), j = fs.length - i ∧ i ≤ fs.length ∧ Fr a 160 [(0, .pointer (some ⟨b, 0, none⟩)), (3, .int .i64 i)] ∧
    Sat w0 w (.obj b (.cells #[.slice Af fs.length cf, .slice Aw ws.length cw, .slice Al L.length cl] 34) :: rowC 22 1 (.slice Af fs.length cf) fs.length (fs.map (·.1)) :: rowC 22 1 (.slice Aw ws.length cw) ws.length (ws.map (·.1)) :: rowC 22 1 (.slice Al L.length cl) L.length L :: marksC L :: FR fs :: FR ws :: C)) fs.length
    ⟨0, by omega, by omega, hF.sub ⟨rfl, rfl, trivial⟩, hS⟩ ?_
  clear hS hF
  rintro j a w ⟨i, rfl, hi, hF, hS⟩
  refine wp_seq_k fun K3 hK3 => ?_
  refine wp_seq_k fun K4 hK4 => ?_
  -- region 2
  refine wp_region_lit ?_
  refine s_pu hF rfl rfl rfl (pu_move (hF.ev rfl)) ?_; clear hF; intro a hF
  refine s_pu hF rfl rfl rfl (pu_move (hF.ev rfl)) ?_; clear hF; intro a hF
  refine s_pu hF rfl rfl rfl ((by first | exact pu_nil (hF.ev rfl) | exact pu_nilf (hF.ev rfl))) ?_; clear hF; intro a hF
  refine s_pu hF rfl rfl rfl ((by first | exact pu_field fd34_0 (hF.ev rfl) | exact pu_fieldA fd34_0 (hF.ev rfl))) ?_; clear hF; intro a hF
  refine s_rd hF rfl rfl rfl (by first | exact rd_load pl32 (hF.ev rfl) (by assumption) | exact rd_load pl32 (hF.ev rfl) (hS.cellL (i := 0) rfl rfl) | exact rd_load pl32 (hF.ev rfl) (hS.cellL (i := 1) rfl rfl) | exact rd_load pl32 (hF.ev rfl) (hS.cellL (i := 2) rfl rfl) | exact rd_load pl32 (hF.ev rfl) (hS.cellL (i := 3) rfl rfl) | exact rd_load pl32 (hF.ev rfl) (hS.cellL (i := 4) rfl rfl) | exact rd_load pl32 (hF.ev rfl) (hS.cellL (i := 5) rfl rfl) | exact rd_load pl32 (hF.ev rfl) (hS.cell (i := 0) rfl (by assumption)) | exact rd_load pl32 (hF.ev rfl) (hS.cell (i := 1) rfl (by assumption)) | exact rd_load pl32 (hF.ev rfl) (hS.cell (i := 2) rfl (by assumption)) | exact rd_load pl32 (hF.ev rfl) (hS.cell (i := 3) rfl (by assumption)) | exact rd_load pl32 (hF.ev rfl) (hS.cell (i := 4) rfl (by assumption)) | exact rd_load pl32 (hF.ev rfl) (hS.cell (i := 5) rfl (by assumption)) | exact rd_load pl32 (hF.ev rfl) (row_at (i := 0) hS rfl (by first | assumption | rfl)) | exact rd_load pl32 (hF.ev rfl) (row_at0 (i := 0) hS rfl (by first | assumption | rfl)) | exact rd_load pl32 (hF.ev rfl) (row_at (i := 1) hS rfl (by first | assumption | rfl)) | exact rd_load pl32 (hF.ev rfl) (row_at0 (i := 1) hS rfl (by first | assumption | rfl)) | exact rd_load pl32 (hF.ev rfl) (row_at (i := 2) hS rfl (by first | assumption | rfl)) | exact rd_load pl32 (hF.ev rfl) (row_at0 (i := 2) hS rfl (by first | assumption | rfl)) | exact rd_load pl32 (hF.ev rfl) (row_at (i := 3) hS rfl (by first | assumption | rfl)) | exact rd_load pl32 (hF.ev rfl) (row_at0 (i := 3) hS rfl (by first | assumption | rfl)) | exact rd_load pl32 (hF.ev rfl) (row_at (i := 4) hS rfl (by first | assumption | rfl)) | exact rd_load pl32 (hF.ev rfl) (row_at0 (i := 4) hS rfl (by first | assumption | rfl)) | exact rd_load pl32 (hF.ev rfl) (row_at (i := 5) hS rfl (by first | assumption | rfl)) | exact rd_load pl32 (hF.ev rfl) (row_at0 (i := 5) hS rfl (by first | assumption | rfl))) ?_; clear hF; intro a hF
  refine s_pu hF rfl rfl rfl (pu_len sl32 (hF.ev rfl)) ?_; clear hF; intro a hF
  refine s_pu hF rfl rfl rfl (pu_lss (hF.ev rfl) (hF.ev rfl)) ?_; clear hF; intro a hF
  refine s_done ?_
  refine hK4 _ _ ?_; clear hK4
  refine wp_cond_split (hF.ev rfl) (fun hc0 => ?_) (fun hc0 => ?_)
  · -- cond 0 true
    try simp only [decide_eq_true_eq, decide_eq_false_iff_not, Bool.not_eq_true', Bool.not_eq_false', Int.not_lt, Int.not_le, ne_eq, Decidable.not_not, Bool.or_eq_true, Bool.or_eq_false_iff, Bool.and_eq_true, Bool.and_eq_false_imp] at hc0
    have hil : i < fs.length := by omega
    obtain ⟨⟨v1, zs⟩, hp⟩ : ∃ p, fs[i]? = some p := ⟨_, List.getElem?_eq_getElem hil⟩
    obtain ⟨⟨v2, us⟩, hp2⟩ : ∃ p, ws[i]? = some p := ⟨_, List.getElem?_eq_getElem (by omega)⟩
    have hzu : us = zs := by
      have h1 : (fs.map (·.2))[i]? = some zs := by rw [List.getElem?_map, hp]; rfl
      have h2 : (ws.map (·.2))[i]? = some us := by rw [List.getElem?_map, hp2]; rfl
      rw [hsame, h2] at h1
      injection h1
    subst hzu
    obtain ⟨A1, c1, e1⟩ := fr_val (i := 5) hS rfl hp
    obtain ⟨A2, c2, e2⟩ := fr_val (i := 6) hS rfl hp2
    dsimp only at e1 e2
    subst e1
    subst e2
    have hr1 := rd_FR (i := 5) hS rfl hp rfl
    have hr2 := rd_FR (i := 6) hS rfl hp2 rfl
    have hx1 := fr_at hp
    have hx2 := fr_at hp2
    have hzb := hb _ (List.mem_of_getElem? hp)
    dsimp only at hx1 hx2 hzb
    obtain ⟨gf, rfl⟩ := row_some (i := 1) hS rfl (by omega)
    obtain ⟨gw, rfl⟩ := row_some (i := 2) hS rfl (by omega)
    refine wp_skip ?_
    refine hK3 _ _ ?_; clear hK3
    refine wp_seq_k fun K5 hK5 => ?_
    refine wp_block ?_
    refine wp_seq_k fun K6 hK6 => ?_
    -- region 4
    refine d_start (S := (fun w => Sat w0 w _)) (ds := [14]) (ord := [(0, .pu), (1, .pu), (2, .pu), (3, .tk), (4, .pu), (5, .pu), (6, .tk), (7, .pu), (8, .pu), (9, .pu), (10, .tk), (11, .pu), (12, .pu), (13, .tk), (14, .ls), (15, .pu)]) mixed ⟨by kernel_rfl, fun _ d _ _ _ h => by cases d <;> exact h⟩ hS.drew fun hD => ?_
    replace hS := hS.drew; generalize w.drew = w at hS ⊢
    refine d_pu hD hF rfl rfl rfl rfl rfl (pu_move (hF.ev rfl)) ?_; clear hF; intro a hF
    refine d_pu hD hF rfl rfl rfl rfl rfl ((by first | exact pu_nil (hF.ev rfl) | exact pu_nilf (hF.ev rfl))) ?_; clear hF; intro a hF
    refine d_pu hD hF rfl rfl rfl rfl rfl ((by first | exact pu_field fd34_0 (hF.ev rfl) | exact pu_fieldA fd34_0 (hF.ev rfl))) ?_; clear hF; intro a hF
    refine d_rd hD hF rfl rfl rfl rfl rfl hS (fun w hS => (by first | exact rd_load pl32 (hF.ev rfl) (by assumption) | exact rd_load pl32 (hF.ev rfl) (hS.cellL (i := 0) rfl rfl) | exact rd_load pl32 (hF.ev rfl) (hS.cellL (i := 1) rfl rfl) | exact rd_load pl32 (hF.ev rfl) (hS.cellL (i := 2) rfl rfl) | exact rd_load pl32 (hF.ev rfl) (hS.cellL (i := 3) rfl rfl) | exact rd_load pl32 (hF.ev rfl) (hS.cellL (i := 4) rfl rfl) | exact rd_load pl32 (hF.ev rfl) (hS.cellL (i := 5) rfl rfl) | exact rd_load pl32 (hF.ev rfl) (hS.cell (i := 0) rfl (by assumption)) | exact rd_load pl32 (hF.ev rfl) (hS.cell (i := 1) rfl (by assumption)) | exact rd_load pl32 (hF.ev rfl) (hS.cell (i := 2) rfl (by assumption)) | exact rd_load pl32 (hF.ev rfl) (hS.cell (i := 3) rfl (by assumption)) | exact rd_load pl32 (hF.ev rfl) (hS.cell (i := 4) rfl (by assumption)) | exact rd_load pl32 (hF.ev rfl) (hS.cell (i := 5) rfl (by assumption)) | exact rd_load pl32 (hF.ev rfl) (row_at (i := 0) hS rfl (by first | assumption | rfl)) | exact rd_load pl32 (hF.ev rfl) (row_at0 (i := 0) hS rfl (by first | assumption | rfl)) | exact rd_load pl32 (hF.ev rfl) (row_at (i := 1) hS rfl (by first | assumption | rfl)) | exact rd_load pl32 (hF.ev rfl) (row_at0 (i := 1) hS rfl (by first | assumption | rfl)) | exact rd_load pl32 (hF.ev rfl) (row_at (i := 2) hS rfl (by first | assumption | rfl)) | exact rd_load pl32 (hF.ev rfl) (row_at0 (i := 2) hS rfl (by first | assumption | rfl)) | exact rd_load pl32 (hF.ev rfl) (row_at (i := 3) hS rfl (by first | assumption | rfl)) | exact rd_load pl32 (hF.ev rfl) (row_at0 (i := 3) hS rfl (by first | assumption | rfl)) | exact rd_load pl32 (hF.ev rfl) (row_at (i := 4) hS rfl (by first | assumption | rfl)) | exact rd_load pl32 (hF.ev rfl) (row_at0 (i := 4) hS rfl (by first | assumption | rfl)) | exact rd_load pl32 (hF.ev rfl) (row_at (i := 5) hS rfl (by first | assumption | rfl)) | exact rd_load pl32 (hF.ev rfl) (row_at0 (i := 5) hS rfl (by first | assumption | rfl)))) ?_; clear hF; intro a hF
    refine d_pu hD hF rfl rfl rfl rfl rfl (pu_move (hF.ev rfl)) ?_; clear hF; intro a hF
    refine d_pu hD hF rfl rfl rfl rfl rfl ((by first | exact pu_elem sl32 (hF.ev rfl) (hF.ev rfl) (by first | omega | simp) (by first | omega | (simp; done) | (simp; omega)) | exact pu_elemA sl32 (hF.ev rfl) (hF.ev rfl) (by omega) (by omega))) ?_; clear hF; intro a hF
    refine d_rd hD hF rfl rfl rfl rfl rfl hS (fun w hS => (by first | exact rd_load pl22 (hF.ev rfl) (by assumption) | exact rd_load pl22 (hF.ev rfl) (hS.cellL (i := 0) rfl rfl) | exact rd_load pl22 (hF.ev rfl) (hS.cellL (i := 1) rfl rfl) | exact rd_load pl22 (hF.ev rfl) (hS.cellL (i := 2) rfl rfl) | exact rd_load pl22 (hF.ev rfl) (hS.cellL (i := 3) rfl rfl) | exact rd_load pl22 (hF.ev rfl) (hS.cellL (i := 4) rfl rfl) | exact rd_load pl22 (hF.ev rfl) (hS.cellL (i := 5) rfl rfl) | exact rd_load pl22 (hF.ev rfl) (hS.cell (i := 0) rfl (by assumption)) | exact rd_load pl22 (hF.ev rfl) (hS.cell (i := 1) rfl (by assumption)) | exact rd_load pl22 (hF.ev rfl) (hS.cell (i := 2) rfl (by assumption)) | exact rd_load pl22 (hF.ev rfl) (hS.cell (i := 3) rfl (by assumption)) | exact rd_load pl22 (hF.ev rfl) (hS.cell (i := 4) rfl (by assumption)) | exact rd_load pl22 (hF.ev rfl) (hS.cell (i := 5) rfl (by assumption)) | exact rd_load pl22 (hF.ev rfl) (row_at (i := 0) hS rfl (by first | assumption | rfl)) | exact rd_load pl22 (hF.ev rfl) (row_at0 (i := 0) hS rfl (by first | assumption | rfl)) | exact rd_load pl22 (hF.ev rfl) (row_at (i := 1) hS rfl (by first | assumption | rfl)) | exact rd_load pl22 (hF.ev rfl) (row_at0 (i := 1) hS rfl (by first | assumption | rfl)) | exact rd_load pl22 (hF.ev rfl) (row_at (i := 2) hS rfl (by first | assumption | rfl)) | exact rd_load pl22 (hF.ev rfl) (row_at0 (i := 2) hS rfl (by first | assumption | rfl)) | exact rd_load pl22 (hF.ev rfl) (row_at (i := 3) hS rfl (by first | assumption | rfl)) | exact rd_load pl22 (hF.ev rfl) (row_at0 (i := 3) hS rfl (by first | assumption | rfl)) | exact rd_load pl22 (hF.ev rfl) (row_at (i := 4) hS rfl (by first | assumption | rfl)) | exact rd_load pl22 (hF.ev rfl) (row_at0 (i := 4) hS rfl (by first | assumption | rfl)) | exact rd_load pl22 (hF.ev rfl) (row_at (i := 5) hS rfl (by first | assumption | rfl)) | exact rd_load pl22 (hF.ev rfl) (row_at0 (i := 5) hS rfl (by first | assumption | rfl)))) ?_; clear hF; intro a hF
    refine d_pu hD hF rfl rfl rfl rfl rfl (pu_move (hF.ev rfl)) ?_; clear hF; intro a hF
    refine d_pu hD hF rfl rfl rfl rfl rfl ((by first | exact pu_nil (hF.ev rfl) | exact pu_nilf (hF.ev rfl))) ?_; clear hF; intro a hF
    refine d_pu hD hF rfl rfl rfl rfl rfl ((by first | exact pu_field fd34_1 (hF.ev rfl) | exact pu_fieldA fd34_1 (hF.ev rfl))) ?_; clear hF; intro a hF
    refine d_rd hD hF rfl rfl rfl rfl rfl hS (fun w hS => (by first | exact rd_load pl32 (hF.ev rfl) (by assumption) | exact rd_load pl32 (hF.ev rfl) (hS.cellL (i := 0) rfl rfl) | exact rd_load pl32 (hF.ev rfl) (hS.cellL (i := 1) rfl rfl) | exact rd_load pl32 (hF.ev rfl) (hS.cellL (i := 2) rfl rfl) | exact rd_load pl32 (hF.ev rfl) (hS.cellL (i := 3) rfl rfl) | exact rd_load pl32 (hF.ev rfl) (hS.cellL (i := 4) rfl rfl) | exact rd_load pl32 (hF.ev rfl) (hS.cellL (i := 5) rfl rfl) | exact rd_load pl32 (hF.ev rfl) (hS.cell (i := 0) rfl (by assumption)) | exact rd_load pl32 (hF.ev rfl) (hS.cell (i := 1) rfl (by assumption)) | exact rd_load pl32 (hF.ev rfl) (hS.cell (i := 2) rfl (by assumption)) | exact rd_load pl32 (hF.ev rfl) (hS.cell (i := 3) rfl (by assumption)) | exact rd_load pl32 (hF.ev rfl) (hS.cell (i := 4) rfl (by assumption)) | exact rd_load pl32 (hF.ev rfl) (hS.cell (i := 5) rfl (by assumption)) | exact rd_load pl32 (hF.ev rfl) (row_at (i := 0) hS rfl (by first | assumption | rfl)) | exact rd_load pl32 (hF.ev rfl) (row_at0 (i := 0) hS rfl (by first | assumption | rfl)) | exact rd_load pl32 (hF.ev rfl) (row_at (i := 1) hS rfl (by first | assumption | rfl)) | exact rd_load pl32 (hF.ev rfl) (row_at0 (i := 1) hS rfl (by first | assumption | rfl)) | exact rd_load pl32 (hF.ev rfl) (row_at (i := 2) hS rfl (by first | assumption | rfl)) | exact rd_load pl32 (hF.ev rfl) (row_at0 (i := 2) hS rfl (by first | assumption | rfl)) | exact rd_load pl32 (hF.ev rfl) (row_at (i := 3) hS rfl (by first | assumption | rfl)) | exact rd_load pl32 (hF.ev rfl) (row_at0 (i := 3) hS rfl (by first | assumption | rfl)) | exact rd_load pl32 (hF.ev rfl) (row_at (i := 4) hS rfl (by first | assumption | rfl)) | exact rd_load pl32 (hF.ev rfl) (row_at0 (i := 4) hS rfl (by first | assumption | rfl)) | exact rd_load pl32 (hF.ev rfl) (row_at (i := 5) hS rfl (by first | assumption | rfl)) | exact rd_load pl32 (hF.ev rfl) (row_at0 (i := 5) hS rfl (by first | assumption | rfl)))) ?_; clear hF; intro a hF
    refine d_pu hD hF rfl rfl rfl rfl rfl (pu_move (hF.ev rfl)) ?_; clear hF; intro a hF
    refine d_pu hD hF rfl rfl rfl rfl rfl ((by first | exact pu_elem sl32 (hF.ev rfl) (hF.ev rfl) (by first | omega | simp) (by first | omega | (simp; done) | (simp; omega)) | exact pu_elemA sl32 (hF.ev rfl) (hF.ev rfl) (by omega) (by omega))) ?_; clear hF; intro a hF
    refine d_rd hD hF rfl rfl rfl rfl rfl hS (fun w hS => (by first | exact rd_load pl22 (hF.ev rfl) (by assumption) | exact rd_load pl22 (hF.ev rfl) (hS.cellL (i := 0) rfl rfl) | exact rd_load pl22 (hF.ev rfl) (hS.cellL (i := 1) rfl rfl) | exact rd_load pl22 (hF.ev rfl) (hS.cellL (i := 2) rfl rfl) | exact rd_load pl22 (hF.ev rfl) (hS.cellL (i := 3) rfl rfl) | exact rd_load pl22 (hF.ev rfl) (hS.cellL (i := 4) rfl rfl) | exact rd_load pl22 (hF.ev rfl) (hS.cellL (i := 5) rfl rfl) | exact rd_load pl22 (hF.ev rfl) (hS.cell (i := 0) rfl (by assumption)) | exact rd_load pl22 (hF.ev rfl) (hS.cell (i := 1) rfl (by assumption)) | exact rd_load pl22 (hF.ev rfl) (hS.cell (i := 2) rfl (by assumption)) | exact rd_load pl22 (hF.ev rfl) (hS.cell (i := 3) rfl (by assumption)) | exact rd_load pl22 (hF.ev rfl) (hS.cell (i := 4) rfl (by assumption)) | exact rd_load pl22 (hF.ev rfl) (hS.cell (i := 5) rfl (by assumption)) | exact rd_load pl22 (hF.ev rfl) (row_at (i := 0) hS rfl (by first | assumption | rfl)) | exact rd_load pl22 (hF.ev rfl) (row_at0 (i := 0) hS rfl (by first | assumption | rfl)) | exact rd_load pl22 (hF.ev rfl) (row_at (i := 1) hS rfl (by first | assumption | rfl)) | exact rd_load pl22 (hF.ev rfl) (row_at0 (i := 1) hS rfl (by first | assumption | rfl)) | exact rd_load pl22 (hF.ev rfl) (row_at (i := 2) hS rfl (by first | assumption | rfl)) | exact rd_load pl22 (hF.ev rfl) (row_at0 (i := 2) hS rfl (by first | assumption | rfl)) | exact rd_load pl22 (hF.ev rfl) (row_at (i := 3) hS rfl (by first | assumption | rfl)) | exact rd_load pl22 (hF.ev rfl) (row_at0 (i := 3) hS rfl (by first | assumption | rfl)) | exact rd_load pl22 (hF.ev rfl) (row_at (i := 4) hS rfl (by first | assumption | rfl)) | exact rd_load pl22 (hF.ev rfl) (row_at0 (i := 4) hS rfl (by first | assumption | rfl)) | exact rd_load pl22 (hF.ev rfl) (row_at (i := 5) hS rfl (by first | assumption | rfl)) | exact rd_load pl22 (hF.ev rfl) (row_at0 (i := 5) hS rfl (by first | assumption | rfl)))) ?_; clear hF; intro a hF
    refine l_en hD hF rfl rfl rfl rfl rfl (run_fn fk25 (hF.ev rfl) (hF.evs rfl)) (same_c hS hr1 hr2 (by omega)) ?_
    clear hS; rintro e w ⟨rfl, hS⟩
    refine ⟨_, rfl, ?_⟩; clear hF; intro a hF
    refine d_pu hD hF rfl rfl rfl rfl rfl (pu_assign (hF.ev rfl)) ?_; clear hF; intro a hF
    refine d_done hD rfl ?_; clear hD
    refine hK6 _ _ ?_; clear hK6
    refine wp_seq_k fun K7 hK7 => ?_
    -- region 5
    refine wp_region_lit ?_
    refine s_pu hF rfl rfl rfl (pu_move (hF.ev rfl)) ?_; clear hF; intro a hF
    refine s_pu hF rfl rfl rfl (pu_not (hF.ev rfl)) ?_; clear hF; intro a hF
    refine s_done ?_
    refine hK7 _ _ ?_; clear hK7
    refine wp_cond_split (hF.ev rfl) (fun hc1 => ?_) (fun hc1 => ?_)
    · -- cond 1 true
      try simp only [decide_eq_true_eq, decide_eq_false_iff_not, Bool.not_eq_true', Bool.not_eq_false', Int.not_lt, Int.not_le, ne_eq, Decidable.not_not, Bool.or_eq_true, Bool.or_eq_false_iff, Bool.and_eq_true, Bool.and_eq_false_imp] at hc1
      simp at hc1
    · -- cond 1 false
      try simp only [decide_eq_true_eq, decide_eq_false_iff_not, Bool.not_eq_true', Bool.not_eq_false', Int.not_lt, Int.not_le, ne_eq, Decidable.not_not, Bool.or_eq_true, Bool.or_eq_false_iff, Bool.and_eq_true, Bool.and_eq_false_imp] at hc1
      refine wp_skip ?_
      refine blk_normal ?_
      refine hK5 _ _ ?_; clear hK5
      -- region 3
      refine wp_region_lit ?_
      refine s_pu hF rfl rfl rfl (pu_move (hF.ev rfl)) ?_; clear hF; intro a hF
      refine s_pu hF rfl rfl rfl ((by first | exact pu_add64 (hF.ev rfl) (hF.ev rfl) (by omega) | exact pu_add (hF.ev rfl) (hF.ev rfl))) ?_; clear hF; intro a hF
      refine s_pu hF rfl rfl rfl (pu_assign (hF.ev rfl)) ?_; clear hF; intro a hF
      refine s_done ?_
      exact ⟨_, by omega, i + 1, rfl, by omega, hF.sub ⟨rfl, rfl, trivial⟩, hS⟩
  · -- cond 0 false
    try simp only [decide_eq_true_eq, decide_eq_false_iff_not, Bool.not_eq_true', Bool.not_eq_false', Int.not_lt, Int.not_le, ne_eq, Decidable.not_not, Bool.or_eq_true, Bool.or_eq_false_iff, Bool.and_eq_true, Bool.and_eq_false_imp] at hc0
    refine wp_exit ?_
    refine then_exit ?_
    refine then_exit ?_
    refine blk_exit ?_
    refine hK1 _ _ ?_; clear hK1
    refine wp_seq_k fun K5 hK5 => ?_
    refine wp_seq_k fun K6 hK6 => ?_
    -- region 7
    refine wp_region_lit ?_
    refine s_pu hF rfl rfl rfl (pu_assign (hF.ev rfl)) ?_; clear hF; intro a hF
    refine s_done ?_
    refine hK6 _ _ ?_; clear hK6
    refine wp_block ?_
    have hil0 : i = fs.length := by omega
    subst hil0
    refine wp_ind (fun j a w => ∃ (i : Nat) (gs : List (Value × List Int)), j = fs.length - i ∧ i ≤ fs.length ∧ Filled q fs gs i ∧ Fr a 160 [(0, .pointer (some ⟨b, 0, none⟩)), (5, .int .i64 i)] ∧
      Sat w0 w (.obj b (.cells #[.slice Af fs.length cf, .slice Aw ws.length cw, .slice Al L.length cl] 34) :: rowC 22 1 (.slice Af fs.length cf) fs.length (fs.map (·.1)) :: rowC 22 1 (.slice Aw ws.length cw) ws.length (ws.map (·.1)) :: rowC 22 1 (.slice Al L.length cl) L.length L :: marksC L :: FR gs :: FR ws :: C)) fs.length
      ⟨0, fs, by omega, by omega, .none, hF.sub ⟨rfl, rfl, trivial⟩, hS⟩ ?_
    clear hS hF
    rintro j a w ⟨i, gs, rfl, hi, hfi, hF, hS⟩
    refine wp_seq_k fun K7 hK7 => ?_
    refine wp_seq_k fun K8 hK8 => ?_
    -- region 8
    refine wp_region_lit ?_
    refine s_pu hF rfl rfl rfl (pu_move (hF.ev rfl)) ?_; clear hF; intro a hF
    refine s_pu hF rfl rfl rfl (pu_move (hF.ev rfl)) ?_; clear hF; intro a hF
    refine s_pu hF rfl rfl rfl ((by first | exact pu_nil (hF.ev rfl) | exact pu_nilf (hF.ev rfl))) ?_; clear hF; intro a hF
    refine s_pu hF rfl rfl rfl ((by first | exact pu_field fd34_0 (hF.ev rfl) | exact pu_fieldA fd34_0 (hF.ev rfl))) ?_; clear hF; intro a hF
    refine s_rd hF rfl rfl rfl (by first | exact rd_load pl32 (hF.ev rfl) (by assumption) | exact rd_load pl32 (hF.ev rfl) (hS.cellL (i := 0) rfl rfl) | exact rd_load pl32 (hF.ev rfl) (hS.cellL (i := 1) rfl rfl) | exact rd_load pl32 (hF.ev rfl) (hS.cellL (i := 2) rfl rfl) | exact rd_load pl32 (hF.ev rfl) (hS.cellL (i := 3) rfl rfl) | exact rd_load pl32 (hF.ev rfl) (hS.cellL (i := 4) rfl rfl) | exact rd_load pl32 (hF.ev rfl) (hS.cellL (i := 5) rfl rfl) | exact rd_load pl32 (hF.ev rfl) (hS.cell (i := 0) rfl (by assumption)) | exact rd_load pl32 (hF.ev rfl) (hS.cell (i := 1) rfl (by assumption)) | exact rd_load pl32 (hF.ev rfl) (hS.cell (i := 2) rfl (by assumption)) | exact rd_load pl32 (hF.ev rfl) (hS.cell (i := 3) rfl (by assumption)) | exact rd_load pl32 (hF.ev rfl) (hS.cell (i := 4) rfl (by assumption)) | exact rd_load pl32 (hF.ev rfl) (hS.cell (i := 5) rfl (by assumption)) | exact rd_load pl32 (hF.ev rfl) (row_at (i := 0) hS rfl (by first | assumption | rfl)) | exact rd_load pl32 (hF.ev rfl) (row_at0 (i := 0) hS rfl (by first | assumption | rfl)) | exact rd_load pl32 (hF.ev rfl) (row_at (i := 1) hS rfl (by first | assumption | rfl)) | exact rd_load pl32 (hF.ev rfl) (row_at0 (i := 1) hS rfl (by first | assumption | rfl)) | exact rd_load pl32 (hF.ev rfl) (row_at (i := 2) hS rfl (by first | assumption | rfl)) | exact rd_load pl32 (hF.ev rfl) (row_at0 (i := 2) hS rfl (by first | assumption | rfl)) | exact rd_load pl32 (hF.ev rfl) (row_at (i := 3) hS rfl (by first | assumption | rfl)) | exact rd_load pl32 (hF.ev rfl) (row_at0 (i := 3) hS rfl (by first | assumption | rfl)) | exact rd_load pl32 (hF.ev rfl) (row_at (i := 4) hS rfl (by first | assumption | rfl)) | exact rd_load pl32 (hF.ev rfl) (row_at0 (i := 4) hS rfl (by first | assumption | rfl)) | exact rd_load pl32 (hF.ev rfl) (row_at (i := 5) hS rfl (by first | assumption | rfl)) | exact rd_load pl32 (hF.ev rfl) (row_at0 (i := 5) hS rfl (by first | assumption | rfl))) ?_; clear hF; intro a hF
    refine s_pu hF rfl rfl rfl (pu_len sl32 (hF.ev rfl)) ?_; clear hF; intro a hF
    refine s_pu hF rfl rfl rfl (pu_lss (hF.ev rfl) (hF.ev rfl)) ?_; clear hF; intro a hF
    refine s_done ?_
    refine hK8 _ _ ?_; clear hK8
    refine wp_cond_split (hF.ev rfl) (fun hc2 => ?_) (fun hc2 => ?_)
    · -- cond 2 true
      try simp only [decide_eq_true_eq, decide_eq_false_iff_not, Bool.not_eq_true', Bool.not_eq_false', Int.not_lt, Int.not_le, ne_eq, Decidable.not_not, Bool.or_eq_true, Bool.or_eq_false_iff, Bool.and_eq_true, Bool.and_eq_false_imp] at hc2
      have hil : i < fs.length := by omega
      have hig : i < gs.length := by rw [hfi.len]; exact hil
      obtain ⟨⟨v1, zs⟩, hp⟩ : ∃ p, gs[i]? = some p := ⟨_, List.getElem?_eq_getElem hig⟩
      obtain ⟨A1, c1, e1⟩ := fr_val (i := 5) hS rfl hp
      dsimp only at e1
      subst e1
      have hx1 : (fs.map (·.1))[i]? = some (.slice A1 zs.length c1) := by rw [← hfi.val]; exact fr_at hp
      obtain ⟨gf, rfl⟩ := row_some (i := 1) hS rfl (by omega)
      have hzb : zs.length ≤ 1000000 := by
        obtain ⟨p0, hp0⟩ : ∃ p, fs[i]? = some p := ⟨_, List.getElem?_eq_getElem hil⟩
        have h1 := hfi.cnt i _ _ hp0 hp
        have h2 := hb _ (List.mem_of_getElem? hp0)
        dsimp only at h1
        omega
      obtain ⟨n1, hn1⟩ : ∃ n1, n1 = zs.length := ⟨_, rfl⟩
      obtain ⟨m, hm⟩ : ∃ m : Int, m = -100 - (q : Int) - (i : Int) := ⟨_, rfl⟩
      have hS5 := fr_out (hS.front 5 rfl) hp
      replace hS := hS5.sel [2, 2, 2, 2, 2]
      simp only [selR, nth, del, fRow] at hS
      rw [← hn1] at hx1 hS hzb
      clear hS5
      refine wp_skip ?_
      refine hK7 _ _ ?_; clear hK7
      refine wp_seq_k fun K9 hK9 => ?_
      refine wp_block ?_
      refine wp_seq_k fun K10 hK10 => ?_
      -- region 10
      refine wp_region_lit ?_
      refine s_pu hF rfl rfl rfl (pu_assign (hF.ev rfl)) ?_; clear hF; intro a hF
      refine s_done ?_
      refine hK10 _ _ ?_; clear hK10
      refine wp_block ?_
      refine wp_ind (fun j a w => ∃ (k : Nat), j = n1 - k ∧ k ≤ n1 ∧ Fr a 160 [(0, .pointer (some ⟨b, 0, none⟩)), (5, .int .i64 i), (6, .int .i64 k)] ∧
        Sat w0 w (.obj b (.cells #[.slice (some ⟨gf, 0, none⟩) fs.length cf, .slice Aw ws.length cw, .slice Al L.length cl] 34) :: rowC 22 1 (.slice (some ⟨gf, 0, none⟩) fs.length cf) fs.length (fs.map (·.1)) :: rowC 22 1 (.slice Aw ws.length cw) ws.length (ws.map (·.1)) :: rowC 22 1 (.slice Al L.length cl) L.length L :: marksC L :: rowC 3 1 (.slice A1 n1 c1) n1 (ints (List.replicate k m ++ zs.drop k)) :: FR (gs.eraseIdx i) :: FR ws :: C)) n1
        ⟨0, by omega, by omega, hF.sub ⟨rfl, rfl, rfl, trivial⟩, hS⟩ ?_
      clear hS hF
      rintro j a w ⟨k, rfl, hk, hF, hS⟩
      refine wp_seq_k fun K11 hK11 => ?_
      refine wp_seq_k fun K12 hK12 => ?_
      -- region 11
      refine wp_region_lit ?_
      refine s_pu hF rfl rfl rfl (pu_move (hF.ev rfl)) ?_; clear hF; intro a hF
      refine s_pu hF rfl rfl rfl (pu_move (hF.ev rfl)) ?_; clear hF; intro a hF
      refine s_pu hF rfl rfl rfl ((by first | exact pu_nil (hF.ev rfl) | exact pu_nilf (hF.ev rfl))) ?_; clear hF; intro a hF
      refine s_pu hF rfl rfl rfl ((by first | exact pu_field fd34_0 (hF.ev rfl) | exact pu_fieldA fd34_0 (hF.ev rfl))) ?_; clear hF; intro a hF
      refine s_rd hF rfl rfl rfl (by first | exact rd_load pl32 (hF.ev rfl) (by assumption) | exact rd_load pl32 (hF.ev rfl) (hS.cellL (i := 0) rfl rfl) | exact rd_load pl32 (hF.ev rfl) (hS.cellL (i := 1) rfl rfl) | exact rd_load pl32 (hF.ev rfl) (hS.cellL (i := 2) rfl rfl) | exact rd_load pl32 (hF.ev rfl) (hS.cellL (i := 3) rfl rfl) | exact rd_load pl32 (hF.ev rfl) (hS.cellL (i := 4) rfl rfl) | exact rd_load pl32 (hF.ev rfl) (hS.cellL (i := 5) rfl rfl) | exact rd_load pl32 (hF.ev rfl) (hS.cell (i := 0) rfl (by assumption)) | exact rd_load pl32 (hF.ev rfl) (hS.cell (i := 1) rfl (by assumption)) | exact rd_load pl32 (hF.ev rfl) (hS.cell (i := 2) rfl (by assumption)) | exact rd_load pl32 (hF.ev rfl) (hS.cell (i := 3) rfl (by assumption)) | exact rd_load pl32 (hF.ev rfl) (hS.cell (i := 4) rfl (by assumption)) | exact rd_load pl32 (hF.ev rfl) (hS.cell (i := 5) rfl (by assumption)) | exact rd_load pl32 (hF.ev rfl) (row_at (i := 0) hS rfl (by first | assumption | rfl)) | exact rd_load pl32 (hF.ev rfl) (row_at0 (i := 0) hS rfl (by first | assumption | rfl)) | exact rd_load pl32 (hF.ev rfl) (row_at (i := 1) hS rfl (by first | assumption | rfl)) | exact rd_load pl32 (hF.ev rfl) (row_at0 (i := 1) hS rfl (by first | assumption | rfl)) | exact rd_load pl32 (hF.ev rfl) (row_at (i := 2) hS rfl (by first | assumption | rfl)) | exact rd_load pl32 (hF.ev rfl) (row_at0 (i := 2) hS rfl (by first | assumption | rfl)) | exact rd_load pl32 (hF.ev rfl) (row_at (i := 3) hS rfl (by first | assumption | rfl)) | exact rd_load pl32 (hF.ev rfl) (row_at0 (i := 3) hS rfl (by first | assumption | rfl)) | exact rd_load pl32 (hF.ev rfl) (row_at (i := 4) hS rfl (by first | assumption | rfl)) | exact rd_load pl32 (hF.ev rfl) (row_at0 (i := 4) hS rfl (by first | assumption | rfl)) | exact rd_load pl32 (hF.ev rfl) (row_at (i := 5) hS rfl (by first | assumption | rfl)) | exact rd_load pl32 (hF.ev rfl) (row_at0 (i := 5) hS rfl (by first | assumption | rfl))) ?_; clear hF; intro a hF
      refine s_pu hF rfl rfl rfl (pu_move (hF.ev rfl)) ?_; clear hF; intro a hF
      refine s_pu hF rfl rfl rfl ((by first | exact pu_elem sl32 (hF.ev rfl) (hF.ev rfl) (by first | omega | simp) (by first | omega | (simp; done) | (simp; omega)) | exact pu_elemA sl32 (hF.ev rfl) (hF.ev rfl) (by omega) (by omega))) ?_; clear hF; intro a hF
      refine s_rd hF rfl rfl rfl (by first | exact rd_load pl22 (hF.ev rfl) (by assumption) | exact rd_load pl22 (hF.ev rfl) (hS.cellL (i := 0) rfl rfl) | exact rd_load pl22 (hF.ev rfl) (hS.cellL (i := 1) rfl rfl) | exact rd_load pl22 (hF.ev rfl) (hS.cellL (i := 2) rfl rfl) | exact rd_load pl22 (hF.ev rfl) (hS.cellL (i := 3) rfl rfl) | exact rd_load pl22 (hF.ev rfl) (hS.cellL (i := 4) rfl rfl) | exact rd_load pl22 (hF.ev rfl) (hS.cellL (i := 5) rfl rfl) | exact rd_load pl22 (hF.ev rfl) (hS.cell (i := 0) rfl (by assumption)) | exact rd_load pl22 (hF.ev rfl) (hS.cell (i := 1) rfl (by assumption)) | exact rd_load pl22 (hF.ev rfl) (hS.cell (i := 2) rfl (by assumption)) | exact rd_load pl22 (hF.ev rfl) (hS.cell (i := 3) rfl (by assumption)) | exact rd_load pl22 (hF.ev rfl) (hS.cell (i := 4) rfl (by assumption)) | exact rd_load pl22 (hF.ev rfl) (hS.cell (i := 5) rfl (by assumption)) | exact rd_load pl22 (hF.ev rfl) (row_at (i := 0) hS rfl (by first | assumption | rfl)) | exact rd_load pl22 (hF.ev rfl) (row_at0 (i := 0) hS rfl (by first | assumption | rfl)) | exact rd_load pl22 (hF.ev rfl) (row_at (i := 1) hS rfl (by first | assumption | rfl)) | exact rd_load pl22 (hF.ev rfl) (row_at0 (i := 1) hS rfl (by first | assumption | rfl)) | exact rd_load pl22 (hF.ev rfl) (row_at (i := 2) hS rfl (by first | assumption | rfl)) | exact rd_load pl22 (hF.ev rfl) (row_at0 (i := 2) hS rfl (by first | assumption | rfl)) | exact rd_load pl22 (hF.ev rfl) (row_at (i := 3) hS rfl (by first | assumption | rfl)) | exact rd_load pl22 (hF.ev rfl) (row_at0 (i := 3) hS rfl (by first | assumption | rfl)) | exact rd_load pl22 (hF.ev rfl) (row_at (i := 4) hS rfl (by first | assumption | rfl)) | exact rd_load pl22 (hF.ev rfl) (row_at0 (i := 4) hS rfl (by first | assumption | rfl)) | exact rd_load pl22 (hF.ev rfl) (row_at (i := 5) hS rfl (by first | assumption | rfl)) | exact rd_load pl22 (hF.ev rfl) (row_at0 (i := 5) hS rfl (by first | assumption | rfl))) ?_; clear hF; intro a hF
      refine s_pu hF rfl rfl rfl (pu_len sl22 (hF.ev rfl)) ?_; clear hF; intro a hF
      refine s_pu hF rfl rfl rfl (pu_lss (hF.ev rfl) (hF.ev rfl)) ?_; clear hF; intro a hF
      refine s_done ?_
      refine hK12 _ _ ?_; clear hK12
      refine wp_cond_split (hF.ev rfl) (fun hc3 => ?_) (fun hc3 => ?_)
      · -- cond 3 true
        try simp only [decide_eq_true_eq, decide_eq_false_iff_not, Bool.not_eq_true', Bool.not_eq_false', Int.not_lt, Int.not_le, ne_eq, Decidable.not_not, Bool.or_eq_true, Bool.or_eq_false_iff, Bool.and_eq_true, Bool.and_eq_false_imp] at hc3
        have hkn : k < n1 := by omega
        obtain ⟨g1, rfl⟩ := row_some (i := 5) hS rfl (by omega)
        refine wp_skip ?_
        refine hK11 _ _ ?_; clear hK11
        refine wp_seq_k fun K13 hK13 => ?_
        refine wp_block ?_
        -- region 13
        refine d_start (S := (fun w => Sat w0 w _)) (ds := [18]) (ord := [(0, .pu), (1, .pu), (2, .pu), (3, .tk), (4, .pu), (5, .pu), (6, .tk), (7, .pu), (8, .pu), (9, .pu), (10, .pu), (11, .tk), (12, .pu), (13, .pu), (14, .pu), (15, .pu), (16, .pu), (17, .pu), (18, .ls)]) mixed ⟨by kernel_rfl, fun _ d _ _ _ h => by cases d <;> exact h⟩ hS.drew fun hD => ?_
        replace hS := hS.drew; generalize w.drew = w at hS ⊢
        refine d_pu hD hF rfl rfl rfl rfl rfl (pu_move (hF.ev rfl)) ?_; clear hF; intro a hF
        refine d_pu hD hF rfl rfl rfl rfl rfl ((by first | exact pu_nil (hF.ev rfl) | exact pu_nilf (hF.ev rfl))) ?_; clear hF; intro a hF
        refine d_pu hD hF rfl rfl rfl rfl rfl ((by first | exact pu_field fd34_0 (hF.ev rfl) | exact pu_fieldA fd34_0 (hF.ev rfl))) ?_; clear hF; intro a hF
        refine d_rd hD hF rfl rfl rfl rfl rfl hS (fun w hS => (by first | exact rd_load pl32 (hF.ev rfl) (by assumption) | exact rd_load pl32 (hF.ev rfl) (hS.cellL (i := 0) rfl rfl) | exact rd_load pl32 (hF.ev rfl) (hS.cellL (i := 1) rfl rfl) | exact rd_load pl32 (hF.ev rfl) (hS.cellL (i := 2) rfl rfl) | exact rd_load pl32 (hF.ev rfl) (hS.cellL (i := 3) rfl rfl) | exact rd_load pl32 (hF.ev rfl) (hS.cellL (i := 4) rfl rfl) | exact rd_load pl32 (hF.ev rfl) (hS.cellL (i := 5) rfl rfl) | exact rd_load pl32 (hF.ev rfl) (hS.cell (i := 0) rfl (by assumption)) | exact rd_load pl32 (hF.ev rfl) (hS.cell (i := 1) rfl (by assumption)) | exact rd_load pl32 (hF.ev rfl) (hS.cell (i := 2) rfl (by assumption)) | exact rd_load pl32 (hF.ev rfl) (hS.cell (i := 3) rfl (by assumption)) | exact rd_load pl32 (hF.ev rfl) (hS.cell (i := 4) rfl (by assumption)) | exact rd_load pl32 (hF.ev rfl) (hS.cell (i := 5) rfl (by assumption)) | exact rd_load pl32 (hF.ev rfl) (row_at (i := 0) hS rfl (by first | assumption | rfl)) | exact rd_load pl32 (hF.ev rfl) (row_at0 (i := 0) hS rfl (by first | assumption | rfl)) | exact rd_load pl32 (hF.ev rfl) (row_at (i := 1) hS rfl (by first | assumption | rfl)) | exact rd_load pl32 (hF.ev rfl) (row_at0 (i := 1) hS rfl (by first | assumption | rfl)) | exact rd_load pl32 (hF.ev rfl) (row_at (i := 2) hS rfl (by first | assumption | rfl)) | exact rd_load pl32 (hF.ev rfl) (row_at0 (i := 2) hS rfl (by first | assumption | rfl)) | exact rd_load pl32 (hF.ev rfl) (row_at (i := 3) hS rfl (by first | assumption | rfl)) | exact rd_load pl32 (hF.ev rfl) (row_at0 (i := 3) hS rfl (by first | assumption | rfl)) | exact rd_load pl32 (hF.ev rfl) (row_at (i := 4) hS rfl (by first | assumption | rfl)) | exact rd_load pl32 (hF.ev rfl) (row_at0 (i := 4) hS rfl (by first | assumption | rfl)) | exact rd_load pl32 (hF.ev rfl) (row_at (i := 5) hS rfl (by first | assumption | rfl)) | exact rd_load pl32 (hF.ev rfl) (row_at0 (i := 5) hS rfl (by first | assumption | rfl)))) ?_; clear hF; intro a hF
        refine d_pu hD hF rfl rfl rfl rfl rfl (pu_move (hF.ev rfl)) ?_; clear hF; intro a hF
        refine d_pu hD hF rfl rfl rfl rfl rfl ((by first | exact pu_elem sl32 (hF.ev rfl) (hF.ev rfl) (by first | omega | simp) (by first | omega | (simp; done) | (simp; omega)) | exact pu_elemA sl32 (hF.ev rfl) (hF.ev rfl) (by omega) (by omega))) ?_; clear hF; intro a hF
        refine d_rd hD hF rfl rfl rfl rfl rfl hS (fun w hS => (by first | exact rd_load pl22 (hF.ev rfl) (by assumption) | exact rd_load pl22 (hF.ev rfl) (hS.cellL (i := 0) rfl rfl) | exact rd_load pl22 (hF.ev rfl) (hS.cellL (i := 1) rfl rfl) | exact rd_load pl22 (hF.ev rfl) (hS.cellL (i := 2) rfl rfl) | exact rd_load pl22 (hF.ev rfl) (hS.cellL (i := 3) rfl rfl) | exact rd_load pl22 (hF.ev rfl) (hS.cellL (i := 4) rfl rfl) | exact rd_load pl22 (hF.ev rfl) (hS.cellL (i := 5) rfl rfl) | exact rd_load pl22 (hF.ev rfl) (hS.cell (i := 0) rfl (by assumption)) | exact rd_load pl22 (hF.ev rfl) (hS.cell (i := 1) rfl (by assumption)) | exact rd_load pl22 (hF.ev rfl) (hS.cell (i := 2) rfl (by assumption)) | exact rd_load pl22 (hF.ev rfl) (hS.cell (i := 3) rfl (by assumption)) | exact rd_load pl22 (hF.ev rfl) (hS.cell (i := 4) rfl (by assumption)) | exact rd_load pl22 (hF.ev rfl) (hS.cell (i := 5) rfl (by assumption)) | exact rd_load pl22 (hF.ev rfl) (row_at (i := 0) hS rfl (by first | assumption | rfl)) | exact rd_load pl22 (hF.ev rfl) (row_at0 (i := 0) hS rfl (by first | assumption | rfl)) | exact rd_load pl22 (hF.ev rfl) (row_at (i := 1) hS rfl (by first | assumption | rfl)) | exact rd_load pl22 (hF.ev rfl) (row_at0 (i := 1) hS rfl (by first | assumption | rfl)) | exact rd_load pl22 (hF.ev rfl) (row_at (i := 2) hS rfl (by first | assumption | rfl)) | exact rd_load pl22 (hF.ev rfl) (row_at0 (i := 2) hS rfl (by first | assumption | rfl)) | exact rd_load pl22 (hF.ev rfl) (row_at (i := 3) hS rfl (by first | assumption | rfl)) | exact rd_load pl22 (hF.ev rfl) (row_at0 (i := 3) hS rfl (by first | assumption | rfl)) | exact rd_load pl22 (hF.ev rfl) (row_at (i := 4) hS rfl (by first | assumption | rfl)) | exact rd_load pl22 (hF.ev rfl) (row_at0 (i := 4) hS rfl (by first | assumption | rfl)) | exact rd_load pl22 (hF.ev rfl) (row_at (i := 5) hS rfl (by first | assumption | rfl)) | exact rd_load pl22 (hF.ev rfl) (row_at0 (i := 5) hS rfl (by first | assumption | rfl)))) ?_; clear hF; intro a hF
        refine d_pu hD hF rfl rfl rfl rfl rfl (pu_move (hF.ev rfl)) ?_; clear hF; intro a hF
        refine d_pu hD hF rfl rfl rfl rfl rfl (pu_move (hF.ev rfl)) ?_; clear hF; intro a hF
        refine d_pu hD hF rfl rfl rfl rfl rfl ((by first | exact pu_nil (hF.ev rfl) | exact pu_nilf (hF.ev rfl))) ?_; clear hF; intro a hF
        refine d_pu hD hF rfl rfl rfl rfl rfl ((by first | exact pu_field fd34_2 (hF.ev rfl) | exact pu_fieldA fd34_2 (hF.ev rfl))) ?_; clear hF; intro a hF
        refine d_rd hD hF rfl rfl rfl rfl rfl hS (fun w hS => (by first | exact rd_load pl32 (hF.ev rfl) (by assumption) | exact rd_load pl32 (hF.ev rfl) (hS.cellL (i := 0) rfl rfl) | exact rd_load pl32 (hF.ev rfl) (hS.cellL (i := 1) rfl rfl) | exact rd_load pl32 (hF.ev rfl) (hS.cellL (i := 2) rfl rfl) | exact rd_load pl32 (hF.ev rfl) (hS.cellL (i := 3) rfl rfl) | exact rd_load pl32 (hF.ev rfl) (hS.cellL (i := 4) rfl rfl) | exact rd_load pl32 (hF.ev rfl) (hS.cellL (i := 5) rfl rfl) | exact rd_load pl32 (hF.ev rfl) (hS.cell (i := 0) rfl (by assumption)) | exact rd_load pl32 (hF.ev rfl) (hS.cell (i := 1) rfl (by assumption)) | exact rd_load pl32 (hF.ev rfl) (hS.cell (i := 2) rfl (by assumption)) | exact rd_load pl32 (hF.ev rfl) (hS.cell (i := 3) rfl (by assumption)) | exact rd_load pl32 (hF.ev rfl) (hS.cell (i := 4) rfl (by assumption)) | exact rd_load pl32 (hF.ev rfl) (hS.cell (i := 5) rfl (by assumption)) | exact rd_load pl32 (hF.ev rfl) (row_at (i := 0) hS rfl (by first | assumption | rfl)) | exact rd_load pl32 (hF.ev rfl) (row_at0 (i := 0) hS rfl (by first | assumption | rfl)) | exact rd_load pl32 (hF.ev rfl) (row_at (i := 1) hS rfl (by first | assumption | rfl)) | exact rd_load pl32 (hF.ev rfl) (row_at0 (i := 1) hS rfl (by first | assumption | rfl)) | exact rd_load pl32 (hF.ev rfl) (row_at (i := 2) hS rfl (by first | assumption | rfl)) | exact rd_load pl32 (hF.ev rfl) (row_at0 (i := 2) hS rfl (by first | assumption | rfl)) | exact rd_load pl32 (hF.ev rfl) (row_at (i := 3) hS rfl (by first | assumption | rfl)) | exact rd_load pl32 (hF.ev rfl) (row_at0 (i := 3) hS rfl (by first | assumption | rfl)) | exact rd_load pl32 (hF.ev rfl) (row_at (i := 4) hS rfl (by first | assumption | rfl)) | exact rd_load pl32 (hF.ev rfl) (row_at0 (i := 4) hS rfl (by first | assumption | rfl)) | exact rd_load pl32 (hF.ev rfl) (row_at (i := 5) hS rfl (by first | assumption | rfl)) | exact rd_load pl32 (hF.ev rfl) (row_at0 (i := 5) hS rfl (by first | assumption | rfl)))) ?_; clear hF; intro a hF
        refine d_pu hD hF rfl rfl rfl rfl rfl (pu_len sl32 (hF.ev rfl)) ?_; clear hF; intro a hF
        refine d_pu hD hF rfl rfl rfl rfl rfl (pu_quo64 (hF.ev rfl) (hF.ev rfl) (by omega)) ?_; clear hF; intro a hF
        refine d_pu hD hF rfl rfl rfl rfl rfl ((by first | exact pu_sub64 (hF.ev rfl) (hF.ev rfl) (by omega) | exact pu_sub (hF.ev rfl) (hF.ev rfl))) ?_; clear hF; intro a hF
        refine d_pu hD hF rfl rfl rfl rfl rfl (pu_move (hF.ev rfl)) ?_; clear hF; intro a hF
        refine d_pu hD hF rfl rfl rfl rfl rfl ((by first | exact pu_sub64 (hF.ev rfl) (hF.ev rfl) (by omega) | exact pu_sub (hF.ev rfl) (hF.ev rfl))) ?_; clear hF; intro a hF
        refine d_pu hD hF rfl rfl rfl rfl rfl ((by first | exact pu_elem sl22 (hF.ev rfl) (hF.ev rfl) (by first | omega | simp) (by first | omega | (simp; done) | (simp; omega)) | exact pu_elemA sl22 (hF.ev rfl) (hF.ev rfl) (by omega) (by omega))) ?_; clear hF; intro a hF
        refine l_rstore 5 hD hF rfl rfl rfl (hF.ev rfl) (hF.ev rfl) hS rfl sz3 rfl (by omega) ?_; clear hS; intro w hS
        (try simp only [upd] at hS)
        refine d_done hD rfl ?_; clear hD
        rw [ints_set] at hS
        have e1 : -100 - ((L.length : Int) / 12) - (i : Int) = m := by rw [hm, hq]; omega
        first
          | rw [show (-100 - ((L.length : Int) / 12) - (i : Int)) = m from e1] at hS
          | skip
        rw [fill_one (m := m) hn1.symm hkn] at hS
        refine blk_normal ?_
        refine hK13 _ _ ?_; clear hK13
        -- region 12
        refine wp_region_lit ?_
        refine s_pu hF rfl rfl rfl (pu_move (hF.ev rfl)) ?_; clear hF; intro a hF
        refine s_pu hF rfl rfl rfl ((by first | exact pu_add64 (hF.ev rfl) (hF.ev rfl) (by omega) | exact pu_add (hF.ev rfl) (hF.ev rfl))) ?_; clear hF; intro a hF
        refine s_pu hF rfl rfl rfl (pu_assign (hF.ev rfl)) ?_; clear hF; intro a hF
        refine s_done ?_
        exact ⟨_, by omega, k + 1, rfl, by omega, hF.sub ⟨rfl, rfl, rfl, trivial⟩, hS⟩
      · -- cond 3 false
        try simp only [decide_eq_true_eq, decide_eq_false_iff_not, Bool.not_eq_true', Bool.not_eq_false', Int.not_lt, Int.not_le, ne_eq, Decidable.not_not, Bool.or_eq_true, Bool.or_eq_false_iff, Bool.and_eq_true, Bool.and_eq_false_imp] at hc3
        refine wp_exit ?_
        refine then_exit ?_
        refine then_exit ?_
        refine blk_exit ?_
        refine blk_normal ?_
        refine hK9 _ _ ?_; clear hK9
        -- region 9
        refine wp_region_lit ?_
        refine s_pu hF rfl rfl rfl (pu_move (hF.ev rfl)) ?_; clear hF; intro a hF
        refine s_pu hF rfl rfl rfl ((by first | exact pu_add64 (hF.ev rfl) (hF.ev rfl) (by omega) | exact pu_add (hF.ev rfl) (hF.ev rfl))) ?_; clear hF; intro a hF
        refine s_pu hF rfl rfl rfl (pu_assign (hF.ev rfl)) ?_; clear hF; intro a hF
        refine s_done ?_
        have hkk : k = n1 := by omega
        subst hkk
        rw [List.drop_of_length_le (by omega), List.append_nil] at hS
        have hfi2 := hfi.step hp
        dsimp only at hfi2
        rw [← hn1, ← hm] at hfi2
        have h1 := hS.sel [5, 5]
        simp only [selR, nth, del] at h1
        rw [frow_rep] at h1
        have h3 := (fr_in h1 hig).sel [1, 1, 1, 1, 1]
        simp only [selR, nth, del] at h3
        exact ⟨_, by omega, i + 1, _, rfl, by omega, hfi2, hF.sub ⟨rfl, rfl, trivial⟩, h3⟩
    · -- cond 2 false
      try simp only [decide_eq_true_eq, decide_eq_false_iff_not, Bool.not_eq_true', Bool.not_eq_false', Int.not_lt, Int.not_le, ne_eq, Decidable.not_not, Bool.or_eq_true, Bool.or_eq_false_iff, Bool.and_eq_true, Bool.and_eq_false_imp] at hc2
      refine wp_exit ?_
      refine then_exit ?_
      refine then_exit ?_
      refine blk_exit ?_
      refine hK5 _ _ ?_; clear hK5
      refine wp_seq_k fun K9 hK9 => ?_
      refine wp_seq_k fun K10 hK10 => ?_
      -- region 14
      refine wp_region_lit ?_
      refine s_pu hF rfl rfl rfl (pu_assign (hF.ev rfl)) ?_; clear hF; intro a hF
      refine s_done ?_
      refine hK10 _ _ ?_; clear hK10
      refine wp_block ?_
      have hil0 : i = fs.length := by omega
      subst hil0
      refine wp_ind (fun j a w => ∃ (i : Nat) (l : List Value) (Al : Option Addr) (cl : Nat), j = fs.length - i ∧ i ≤ fs.length ∧ l.length = 12 * (q + i) ∧ Fr a 160 [(0, .pointer (some ⟨b, 0, none⟩)), (7, .int .i64 i)] ∧
        Sat w0 w (.obj b (.cells #[.slice Af fs.length cf, .slice Aw ws.length cw, .slice Al l.length cl] 34) :: rowC 22 1 (.slice Af fs.length cf) fs.length (fs.map (·.1)) :: rowC 22 1 (.slice Aw ws.length cw) ws.length (ws.map (·.1)) :: rowC 22 1 (.slice Al l.length cl) l.length l :: marksC l :: FR (gs.drop i) :: FR ws :: C)) fs.length
        ⟨0, L, Al, cl, by omega, by omega, by omega, hF.sub ⟨rfl, rfl, trivial⟩, hS⟩ ?_
      clear hS hF
      rintro j a w ⟨i, l, Al, cl, rfl, hi, hll, hF, hS⟩
      refine wp_seq_k fun K11 hK11 => ?_
      refine wp_seq_k fun K12 hK12 => ?_
      -- region 15
      refine wp_region_lit ?_
      refine s_pu hF rfl rfl rfl (pu_move (hF.ev rfl)) ?_; clear hF; intro a hF
      refine s_pu hF rfl rfl rfl (pu_move (hF.ev rfl)) ?_; clear hF; intro a hF
      refine s_pu hF rfl rfl rfl ((by first | exact pu_nil (hF.ev rfl) | exact pu_nilf (hF.ev rfl))) ?_; clear hF; intro a hF
      refine s_pu hF rfl rfl rfl ((by first | exact pu_field fd34_0 (hF.ev rfl) | exact pu_fieldA fd34_0 (hF.ev rfl))) ?_; clear hF; intro a hF
      refine s_rd hF rfl rfl rfl (by first | exact rd_load pl32 (hF.ev rfl) (by assumption) | exact rd_load pl32 (hF.ev rfl) (hS.cellL (i := 0) rfl rfl) | exact rd_load pl32 (hF.ev rfl) (hS.cellL (i := 1) rfl rfl) | exact rd_load pl32 (hF.ev rfl) (hS.cellL (i := 2) rfl rfl) | exact rd_load pl32 (hF.ev rfl) (hS.cellL (i := 3) rfl rfl) | exact rd_load pl32 (hF.ev rfl) (hS.cellL (i := 4) rfl rfl) | exact rd_load pl32 (hF.ev rfl) (hS.cellL (i := 5) rfl rfl) | exact rd_load pl32 (hF.ev rfl) (hS.cell (i := 0) rfl (by assumption)) | exact rd_load pl32 (hF.ev rfl) (hS.cell (i := 1) rfl (by assumption)) | exact rd_load pl32 (hF.ev rfl) (hS.cell (i := 2) rfl (by assumption)) | exact rd_load pl32 (hF.ev rfl) (hS.cell (i := 3) rfl (by assumption)) | exact rd_load pl32 (hF.ev rfl) (hS.cell (i := 4) rfl (by assumption)) | exact rd_load pl32 (hF.ev rfl) (hS.cell (i := 5) rfl (by assumption)) | exact rd_load pl32 (hF.ev rfl) (row_at (i := 0) hS rfl (by first | assumption | rfl)) | exact rd_load pl32 (hF.ev rfl) (row_at0 (i := 0) hS rfl (by first | assumption | rfl)) | exact rd_load pl32 (hF.ev rfl) (row_at (i := 1) hS rfl (by first | assumption | rfl)) | exact rd_load pl32 (hF.ev rfl) (row_at0 (i := 1) hS rfl (by first | assumption | rfl)) | exact rd_load pl32 (hF.ev rfl) (row_at (i := 2) hS rfl (by first | assumption | rfl)) | exact rd_load pl32 (hF.ev rfl) (row_at0 (i := 2) hS rfl (by first | assumption | rfl)) | exact rd_load pl32 (hF.ev rfl) (row_at (i := 3) hS rfl (by first | assumption | rfl)) | exact rd_load pl32 (hF.ev rfl) (row_at0 (i := 3) hS rfl (by first | assumption | rfl)) | exact rd_load pl32 (hF.ev rfl) (row_at (i := 4) hS rfl (by first | assumption | rfl)) | exact rd_load pl32 (hF.ev rfl) (row_at0 (i := 4) hS rfl (by first | assumption | rfl)) | exact rd_load pl32 (hF.ev rfl) (row_at (i := 5) hS rfl (by first | assumption | rfl)) | exact rd_load pl32 (hF.ev rfl) (row_at0 (i := 5) hS rfl (by first | assumption | rfl))) ?_; clear hF; intro a hF
      refine s_pu hF rfl rfl rfl (pu_len sl32 (hF.ev rfl)) ?_; clear hF; intro a hF
      refine s_pu hF rfl rfl rfl (pu_lss (hF.ev rfl) (hF.ev rfl)) ?_; clear hF; intro a hF
      refine s_done ?_
      refine hK12 _ _ ?_; clear hK12
      refine wp_cond_split (hF.ev rfl) (fun hc4 => ?_) (fun hc4 => ?_)
      · -- cond 4 true
        try simp only [decide_eq_true_eq, decide_eq_false_iff_not, Bool.not_eq_true', Bool.not_eq_false', Int.not_lt, Int.not_le, ne_eq, Decidable.not_not, Bool.or_eq_true, Bool.or_eq_false_iff, Bool.and_eq_true, Bool.and_eq_false_imp] at hc4
        have hil : i < fs.length := by omega
        have hig : i < gs.length := by rw [hfi.len]; exact hil
        obtain ⟨⟨v1, zs⟩, hp⟩ : ∃ p, gs[i]? = some p := ⟨_, List.getElem?_eq_getElem hig⟩
        have hgd : gs.drop i = (v1, zs) :: gs.drop (i + 1) := by
          rw [List.drop_eq_getElem_cons hig, (List.getElem?_eq_some_iff.1 hp).2]
        rw [hgd] at hS
        have hfull := hfi.full i _ hil hp
        obtain ⟨A1, c1, e1⟩ := fr_val (i := 5) (j := 0) hS rfl rfl
        dsimp only at e1 hfull
        subst e1
        have hx1 : (fs.map (·.1))[i]? = some (.slice A1 zs.length c1) := by rw [← hfi.val]; exact fr_at hp
        obtain ⟨gf, rfl⟩ := row_some (i := 1) hS rfl (by omega)
        have hzb : zs.length ≤ 1000000 := by
          obtain ⟨p0, hp0⟩ : ∃ p, fs[i]? = some p := ⟨_, List.getElem?_eq_getElem hil⟩
          have h1 := hfi.cnt i _ _ hp0 hp
          have h2 := hb _ (List.mem_of_getElem? hp0)
          dsimp only at h1
          omega
        obtain ⟨n1, hn1⟩ : ∃ n1, n1 = zs.length := ⟨_, rfl⟩
        obtain ⟨m, hm⟩ : ∃ m : Int, m = -100 - (q : Int) - (i : Int) := ⟨_, rfl⟩
        have hS5 := (fr_cons.1 (hS.front 5 rfl)).sel [2, 2, 2, 2, 2]
        simp only [selR, nth, del, fRow] at hS5
        clear hS
        have hS := hS5
        clear hS5
        rw [← hn1] at hfull hx1 hS hzb
        rw [← hm] at hfull
        rw [hfull] at hS
        refine wp_skip ?_
        refine hK11 _ _ ?_; clear hK11
        refine wp_seq_k fun K13 hK13 => ?_
        refine wp_block ?_
        refine wp_seq_k fun K14 hK14 => ?_
        -- region 17
        refine wp_region_lit ?_
        refine s_pu hF rfl rfl rfl (pu_move (hF.ev rfl)) ?_; clear hF; intro a hF
        refine s_pu hF rfl rfl rfl ((by first | exact pu_nil (hF.ev rfl) | exact pu_nilf (hF.ev rfl))) ?_; clear hF; intro a hF
        refine s_pu hF rfl rfl rfl ((by first | exact pu_field fd34_0 (hF.ev rfl) | exact pu_fieldA fd34_0 (hF.ev rfl))) ?_; clear hF; intro a hF
        refine s_rd hF rfl rfl rfl (by first | exact rd_load pl32 (hF.ev rfl) (by assumption) | exact rd_load pl32 (hF.ev rfl) (hS.cellL (i := 0) rfl rfl) | exact rd_load pl32 (hF.ev rfl) (hS.cellL (i := 1) rfl rfl) | exact rd_load pl32 (hF.ev rfl) (hS.cellL (i := 2) rfl rfl) | exact rd_load pl32 (hF.ev rfl) (hS.cellL (i := 3) rfl rfl) | exact rd_load pl32 (hF.ev rfl) (hS.cellL (i := 4) rfl rfl) | exact rd_load pl32 (hF.ev rfl) (hS.cellL (i := 5) rfl rfl) | exact rd_load pl32 (hF.ev rfl) (hS.cell (i := 0) rfl (by assumption)) | exact rd_load pl32 (hF.ev rfl) (hS.cell (i := 1) rfl (by assumption)) | exact rd_load pl32 (hF.ev rfl) (hS.cell (i := 2) rfl (by assumption)) | exact rd_load pl32 (hF.ev rfl) (hS.cell (i := 3) rfl (by assumption)) | exact rd_load pl32 (hF.ev rfl) (hS.cell (i := 4) rfl (by assumption)) | exact rd_load pl32 (hF.ev rfl) (hS.cell (i := 5) rfl (by assumption)) | exact rd_load pl32 (hF.ev rfl) (row_at (i := 0) hS rfl (by first | assumption | rfl)) | exact rd_load pl32 (hF.ev rfl) (row_at0 (i := 0) hS rfl (by first | assumption | rfl)) | exact rd_load pl32 (hF.ev rfl) (row_at (i := 1) hS rfl (by first | assumption | rfl)) | exact rd_load pl32 (hF.ev rfl) (row_at0 (i := 1) hS rfl (by first | assumption | rfl)) | exact rd_load pl32 (hF.ev rfl) (row_at (i := 2) hS rfl (by first | assumption | rfl)) | exact rd_load pl32 (hF.ev rfl) (row_at0 (i := 2) hS rfl (by first | assumption | rfl)) | exact rd_load pl32 (hF.ev rfl) (row_at (i := 3) hS rfl (by first | assumption | rfl)) | exact rd_load pl32 (hF.ev rfl) (row_at0 (i := 3) hS rfl (by first | assumption | rfl)) | exact rd_load pl32 (hF.ev rfl) (row_at (i := 4) hS rfl (by first | assumption | rfl)) | exact rd_load pl32 (hF.ev rfl) (row_at0 (i := 4) hS rfl (by first | assumption | rfl)) | exact rd_load pl32 (hF.ev rfl) (row_at (i := 5) hS rfl (by first | assumption | rfl)) | exact rd_load pl32 (hF.ev rfl) (row_at0 (i := 5) hS rfl (by first | assumption | rfl))) ?_; clear hF; intro a hF
        refine s_pu hF rfl rfl rfl (pu_move (hF.ev rfl)) ?_; clear hF; intro a hF
        refine s_pu hF rfl rfl rfl ((by first | exact pu_elem sl32 (hF.ev rfl) (hF.ev rfl) (by first | omega | simp) (by first | omega | (simp; done) | (simp; omega)) | exact pu_elemA sl32 (hF.ev rfl) (hF.ev rfl) (by omega) (by omega))) ?_; clear hF; intro a hF
        refine s_rd hF rfl rfl rfl (by first | exact rd_load pl22 (hF.ev rfl) (by assumption) | exact rd_load pl22 (hF.ev rfl) (hS.cellL (i := 0) rfl rfl) | exact rd_load pl22 (hF.ev rfl) (hS.cellL (i := 1) rfl rfl) | exact rd_load pl22 (hF.ev rfl) (hS.cellL (i := 2) rfl rfl) | exact rd_load pl22 (hF.ev rfl) (hS.cellL (i := 3) rfl rfl) | exact rd_load pl22 (hF.ev rfl) (hS.cellL (i := 4) rfl rfl) | exact rd_load pl22 (hF.ev rfl) (hS.cellL (i := 5) rfl rfl) | exact rd_load pl22 (hF.ev rfl) (hS.cell (i := 0) rfl (by assumption)) | exact rd_load pl22 (hF.ev rfl) (hS.cell (i := 1) rfl (by assumption)) | exact rd_load pl22 (hF.ev rfl) (hS.cell (i := 2) rfl (by assumption)) | exact rd_load pl22 (hF.ev rfl) (hS.cell (i := 3) rfl (by assumption)) | exact rd_load pl22 (hF.ev rfl) (hS.cell (i := 4) rfl (by assumption)) | exact rd_load pl22 (hF.ev rfl) (hS.cell (i := 5) rfl (by assumption)) | exact rd_load pl22 (hF.ev rfl) (row_at (i := 0) hS rfl (by first | assumption | rfl)) | exact rd_load pl22 (hF.ev rfl) (row_at0 (i := 0) hS rfl (by first | assumption | rfl)) | exact rd_load pl22 (hF.ev rfl) (row_at (i := 1) hS rfl (by first | assumption | rfl)) | exact rd_load pl22 (hF.ev rfl) (row_at0 (i := 1) hS rfl (by first | assumption | rfl)) | exact rd_load pl22 (hF.ev rfl) (row_at (i := 2) hS rfl (by first | assumption | rfl)) | exact rd_load pl22 (hF.ev rfl) (row_at0 (i := 2) hS rfl (by first | assumption | rfl)) | exact rd_load pl22 (hF.ev rfl) (row_at (i := 3) hS rfl (by first | assumption | rfl)) | exact rd_load pl22 (hF.ev rfl) (row_at0 (i := 3) hS rfl (by first | assumption | rfl)) | exact rd_load pl22 (hF.ev rfl) (row_at (i := 4) hS rfl (by first | assumption | rfl)) | exact rd_load pl22 (hF.ev rfl) (row_at0 (i := 4) hS rfl (by first | assumption | rfl)) | exact rd_load pl22 (hF.ev rfl) (row_at (i := 5) hS rfl (by first | assumption | rfl)) | exact rd_load pl22 (hF.ev rfl) (row_at0 (i := 5) hS rfl (by first | assumption | rfl))) ?_; clear hF; intro a hF
        refine s_pu hF rfl rfl rfl (pu_assign (hF.ev rfl)) ?_; clear hF; intro a hF
        refine s_done ?_
        refine hK14 _ _ ?_; clear hK14
        refine wp_seq_k fun K15 hK15 => ?_
        -- region 18
        refine wp_region_lit ?_
        refine s_pu hF rfl rfl rfl (pu_move (hF.ev rfl)) ?_; clear hF; intro a hF
        refine s_pu hF rfl rfl rfl ((by first | exact pu_nil (hF.ev rfl) | exact pu_nilf (hF.ev rfl))) ?_; clear hF; intro a hF
        refine s_pu hF rfl rfl rfl ((by first | exact pu_field fd34_2 (hF.ev rfl) | exact pu_fieldA fd34_2 (hF.ev rfl))) ?_; clear hF; intro a hF
        refine s_rd hF rfl rfl rfl (by first | exact rd_load pl32 (hF.ev rfl) (by assumption) | exact rd_load pl32 (hF.ev rfl) (hS.cellL (i := 0) rfl rfl) | exact rd_load pl32 (hF.ev rfl) (hS.cellL (i := 1) rfl rfl) | exact rd_load pl32 (hF.ev rfl) (hS.cellL (i := 2) rfl rfl) | exact rd_load pl32 (hF.ev rfl) (hS.cellL (i := 3) rfl rfl) | exact rd_load pl32 (hF.ev rfl) (hS.cellL (i := 4) rfl rfl) | exact rd_load pl32 (hF.ev rfl) (hS.cellL (i := 5) rfl rfl) | exact rd_load pl32 (hF.ev rfl) (hS.cell (i := 0) rfl (by assumption)) | exact rd_load pl32 (hF.ev rfl) (hS.cell (i := 1) rfl (by assumption)) | exact rd_load pl32 (hF.ev rfl) (hS.cell (i := 2) rfl (by assumption)) | exact rd_load pl32 (hF.ev rfl) (hS.cell (i := 3) rfl (by assumption)) | exact rd_load pl32 (hF.ev rfl) (hS.cell (i := 4) rfl (by assumption)) | exact rd_load pl32 (hF.ev rfl) (hS.cell (i := 5) rfl (by assumption)) | exact rd_load pl32 (hF.ev rfl) (row_at (i := 0) hS rfl (by first | assumption | rfl)) | exact rd_load pl32 (hF.ev rfl) (row_at0 (i := 0) hS rfl (by first | assumption | rfl)) | exact rd_load pl32 (hF.ev rfl) (row_at (i := 1) hS rfl (by first | assumption | rfl)) | exact rd_load pl32 (hF.ev rfl) (row_at0 (i := 1) hS rfl (by first | assumption | rfl)) | exact rd_load pl32 (hF.ev rfl) (row_at (i := 2) hS rfl (by first | assumption | rfl)) | exact rd_load pl32 (hF.ev rfl) (row_at0 (i := 2) hS rfl (by first | assumption | rfl)) | exact rd_load pl32 (hF.ev rfl) (row_at (i := 3) hS rfl (by first | assumption | rfl)) | exact rd_load pl32 (hF.ev rfl) (row_at0 (i := 3) hS rfl (by first | assumption | rfl)) | exact rd_load pl32 (hF.ev rfl) (row_at (i := 4) hS rfl (by first | assumption | rfl)) | exact rd_load pl32 (hF.ev rfl) (row_at0 (i := 4) hS rfl (by first | assumption | rfl)) | exact rd_load pl32 (hF.ev rfl) (row_at (i := 5) hS rfl (by first | assumption | rfl)) | exact rd_load pl32 (hF.ev rfl) (row_at0 (i := 5) hS rfl (by first | assumption | rfl))) ?_; clear hF; intro a hF
        refine s_pu hF rfl rfl rfl (pu_len sl32 (hF.ev rfl)) ?_; clear hF; intro a hF
        refine s_pu hF rfl rfl rfl (pu_quo64 (hF.ev rfl) (hF.ev rfl) (by omega)) ?_; clear hF; intro a hF
        refine s_pu hF rfl rfl rfl ((by first | exact pu_sub64 (hF.ev rfl) (hF.ev rfl) (by omega) | exact pu_sub (hF.ev rfl) (hF.ev rfl))) ?_; clear hF; intro a hF
        refine s_pu hF rfl rfl rfl (pu_assign (hF.ev rfl)) ?_; clear hF; intro a hF
        refine s_done ?_
        rw [show -100 - ((l.length : Int) / 12) = m by rw [hm, hll]; omega] at hF
        refine hK15 _ _ ?_; clear hK15
        refine wp_seq_k fun K16 hK16 => ?_
        -- region 19
        refine wp_region_lit ?_
        refine s_pu hF rfl rfl rfl (pu_assign (hF.ev rfl)) ?_; clear hF; intro a hF
        refine s_done ?_
        refine hK16 _ _ ?_; clear hK16
        refine wp_block ?_
        refine wp_ind (fun j a w => ∃ (k : Nat) (l2 : List Value) (Al A : Option Addr) (cl n c j0 : Nat), j = 12 - k ∧ k ≤ 12 ∧ l2.length = l.length + k ∧ l.length ≤ j0 ∧ j0 ≤ l2.length ∧ n ≤ n1 + k ∧ (∀ j v, j0 ≤ j → l2[j]? = some v → ∃ n' c', v = .slice A n' c' ∧ n' ≤ n) ∧
          Fr a 160 [(0, .pointer (some ⟨b, 0, none⟩)), (7, .int .i64 i), (8, .slice A n c), (9, .int .i64 m), (10, .int .i64 k)] ∧
          Sat w0 w (.obj b (.cells #[.slice (some ⟨gf, 0, none⟩) fs.length cf, .slice Aw ws.length cw, .slice Al l2.length cl] 34) :: rowC 22 1 (.slice (some ⟨gf, 0, none⟩) fs.length cf) fs.length (fs.map (·.1)) :: rowC 22 1 (.slice Aw ws.length cw) ws.length (ws.map (·.1)) :: rowC 22 1 (.slice Al l2.length cl) l2.length l2 :: marksC (l2.take j0) :: rowC 3 1 (.slice A n c) n (ints (List.replicate n m)) :: FR (gs.drop (i + 1)) :: FR ws :: C)) 12
          ⟨0, l, Al, A1, cl, n1, c1, l.length, by omega, by omega, by omega, by omega, by omega, by omega, fun j v hj hv => by
            have := (List.getElem?_eq_some_iff.1 hv).1
            omega, hF.sub ⟨rfl, rfl, rfl, rfl, rfl, trivial⟩, by rw [List.take_length]; exact hS⟩ ?_
        clear hS hF
        rintro j a w ⟨k, l2, Al, A, cl, n, c, j0, rfl, hk, hl2, hj1, hj2, hn2, hnew, hF, hS⟩
        refine wp_seq_k fun K17 hK17 => ?_
        refine wp_seq_k fun K18 hK18 => ?_
        -- region 20
        refine wp_region_lit ?_
        refine s_pu hF rfl rfl rfl (pu_move (hF.ev rfl)) ?_; clear hF; intro a hF
        refine s_pu hF rfl rfl rfl (pu_lss (hF.ev rfl) (hF.ev rfl)) ?_; clear hF; intro a hF
        refine s_done ?_
        refine hK18 _ _ ?_; clear hK18
        refine wp_cond_split (hF.ev rfl) (fun hc5 => ?_) (fun hc5 => ?_)
        · -- cond 5 true
          try simp only [decide_eq_true_eq, decide_eq_false_iff_not, Bool.not_eq_true', Bool.not_eq_false', Int.not_lt, Int.not_le, ne_eq, Decidable.not_not, Bool.or_eq_true, Bool.or_eq_false_iff, Bool.and_eq_true, Bool.and_eq_false_imp] at hc5
          have hk12 : k < 12 := by omega
          refine wp_skip ?_
          refine hK17 _ _ ?_; clear hK17
          refine wp_seq_k fun K19 hK19 => ?_
          refine wp_block ?_
          refine wp_seq_k fun K20 hK20 => ?_
          -- region 22
          refine wp_region_lit ?_
          refine s_pu hF rfl rfl rfl (pu_move (hF.ev rfl)) ?_; clear hF; intro a hF
          refine s_pu hF rfl rfl rfl (pu_move (hF.ev rfl)) ?_; clear hF; intro a hF
          refine s_pu hF rfl rfl rfl ((by first | exact pu_nil (hF.ev rfl) | exact pu_nilf (hF.ev rfl))) ?_; clear hF; intro a hF
          refine s_pu hF rfl rfl rfl ((by first | exact pu_field fd34_2 (hF.ev rfl) | exact pu_fieldA fd34_2 (hF.ev rfl))) ?_; clear hF; intro a hF
          refine s_rd hF rfl rfl rfl (by first | exact rd_load pl32 (hF.ev rfl) (by assumption) | exact rd_load pl32 (hF.ev rfl) (hS.cellL (i := 0) rfl rfl) | exact rd_load pl32 (hF.ev rfl) (hS.cellL (i := 1) rfl rfl) | exact rd_load pl32 (hF.ev rfl) (hS.cellL (i := 2) rfl rfl) | exact rd_load pl32 (hF.ev rfl) (hS.cellL (i := 3) rfl rfl) | exact rd_load pl32 (hF.ev rfl) (hS.cellL (i := 4) rfl rfl) | exact rd_load pl32 (hF.ev rfl) (hS.cellL (i := 5) rfl rfl) | exact rd_load pl32 (hF.ev rfl) (hS.cell (i := 0) rfl (by assumption)) | exact rd_load pl32 (hF.ev rfl) (hS.cell (i := 1) rfl (by assumption)) | exact rd_load pl32 (hF.ev rfl) (hS.cell (i := 2) rfl (by assumption)) | exact rd_load pl32 (hF.ev rfl) (hS.cell (i := 3) rfl (by assumption)) | exact rd_load pl32 (hF.ev rfl) (hS.cell (i := 4) rfl (by assumption)) | exact rd_load pl32 (hF.ev rfl) (hS.cell (i := 5) rfl (by assumption)) | exact rd_load pl32 (hF.ev rfl) (row_at (i := 0) hS rfl (by first | assumption | rfl)) | exact rd_load pl32 (hF.ev rfl) (row_at0 (i := 0) hS rfl (by first | assumption | rfl)) | exact rd_load pl32 (hF.ev rfl) (row_at (i := 1) hS rfl (by first | assumption | rfl)) | exact rd_load pl32 (hF.ev rfl) (row_at0 (i := 1) hS rfl (by first | assumption | rfl)) | exact rd_load pl32 (hF.ev rfl) (row_at (i := 2) hS rfl (by first | assumption | rfl)) | exact rd_load pl32 (hF.ev rfl) (row_at0 (i := 2) hS rfl (by first | assumption | rfl)) | exact rd_load pl32 (hF.ev rfl) (row_at (i := 3) hS rfl (by first | assumption | rfl)) | exact rd_load pl32 (hF.ev rfl) (row_at0 (i := 3) hS rfl (by first | assumption | rfl)) | exact rd_load pl32 (hF.ev rfl) (row_at (i := 4) hS rfl (by first | assumption | rfl)) | exact rd_load pl32 (hF.ev rfl) (row_at0 (i := 4) hS rfl (by first | assumption | rfl)) | exact rd_load pl32 (hF.ev rfl) (row_at (i := 5) hS rfl (by first | assumption | rfl)) | exact rd_load pl32 (hF.ev rfl) (row_at0 (i := 5) hS rfl (by first | assumption | rfl))) ?_; clear hF; intro a hF
          refine s_pu hF rfl rfl rfl (pu_move (hF.ev rfl)) ?_; clear hF; intro a hF
          refine s_news hF rfl rfl rfl (ef_lit1 (cs := [_]) sl32 ze22 rfl (hF.ev rfl) (by first | rfl | exact cells_one (by assumption)) rfl (by omega) (by omega)) hS ?_; clear hF hS; intro b111 w hS a hF
          (first | (refine s_append 0 1 hF rfl rfl sl32 el22 (hF.ev rfl) (hF.ev rfl) hS rfl rfl rfl (by first | rfl | (simp only [List.all_cons, List.all_nil, Value.oneCell', Bool.and_true, Bool.true_and]; assumption) | (simp [Value.oneCell', *]; done)) (by unfold maxLen; omega) (by omega) ?_) | (refine s_append 0 2 hF rfl rfl sl32 el22 (hF.ev rfl) (hF.ev rfl) hS rfl rfl rfl (by first | rfl | (simp only [List.all_cons, List.all_nil, Value.oneCell', Bool.and_true, Bool.true_and]; assumption) | (simp [Value.oneCell', *]; done)) (by unfold maxLen; omega) (by omega) ?_) | (refine s_append 0 3 hF rfl rfl sl32 el22 (hF.ev rfl) (hF.ev rfl) hS rfl rfl rfl (by first | rfl | (simp only [List.all_cons, List.all_nil, Value.oneCell', Bool.and_true, Bool.true_and]; assumption) | (simp [Value.oneCell', *]; done)) (by unfold maxLen; omega) (by omega) ?_) | (refine s_append 0 4 hF rfl rfl sl32 el22 (hF.ev rfl) (hF.ev rfl) hS rfl rfl rfl (by first | rfl | (simp only [List.all_cons, List.all_nil, Value.oneCell', Bool.and_true, Bool.true_and]; assumption) | (simp [Value.oneCell', *]; done)) (by unfold maxLen; omega) (by omega) ?_) | (refine s_append 0 5 hF rfl rfl sl32 el22 (hF.ev rfl) (hF.ev rfl) hS rfl rfl rfl (by first | rfl | (simp only [List.all_cons, List.all_nil, Value.oneCell', Bool.and_true, Bool.true_and]; assumption) | (simp [Value.oneCell', *]; done)) (by unfold maxLen; omega) (by omega) ?_) | (refine s_append 1 0 hF rfl rfl sl32 el22 (hF.ev rfl) (hF.ev rfl) hS rfl rfl rfl (by first | rfl | (simp only [List.all_cons, List.all_nil, Value.oneCell', Bool.and_true, Bool.true_and]; assumption) | (simp [Value.oneCell', *]; done)) (by unfold maxLen; omega) (by omega) ?_) | (refine s_append 1 2 hF rfl rfl sl32 el22 (hF.ev rfl) (hF.ev rfl) hS rfl rfl rfl (by first | rfl | (simp only [List.all_cons, List.all_nil, Value.oneCell', Bool.and_true, Bool.true_and]; assumption) | (simp [Value.oneCell', *]; done)) (by unfold maxLen; omega) (by omega) ?_) | (refine s_append 1 3 hF rfl rfl sl32 el22 (hF.ev rfl) (hF.ev rfl) hS rfl rfl rfl (by first | rfl | (simp only [List.all_cons, List.all_nil, Value.oneCell', Bool.and_true, Bool.true_and]; assumption) | (simp [Value.oneCell', *]; done)) (by unfold maxLen; omega) (by omega) ?_) | (refine s_append 1 4 hF rfl rfl sl32 el22 (hF.ev rfl) (hF.ev rfl) hS rfl rfl rfl (by first | rfl | (simp only [List.all_cons, List.all_nil, Value.oneCell', Bool.and_true, Bool.true_and]; assumption) | (simp [Value.oneCell', *]; done)) (by unfold maxLen; omega) (by omega) ?_) | (refine s_append 1 5 hF rfl rfl sl32 el22 (hF.ev rfl) (hF.ev rfl) hS rfl rfl rfl (by first | rfl | (simp only [List.all_cons, List.all_nil, Value.oneCell', Bool.and_true, Bool.true_and]; assumption) | (simp [Value.oneCell', *]; done)) (by unfold maxLen; omega) (by omega) ?_) | (refine s_append 2 0 hF rfl rfl sl32 el22 (hF.ev rfl) (hF.ev rfl) hS rfl rfl rfl (by first | rfl | (simp only [List.all_cons, List.all_nil, Value.oneCell', Bool.and_true, Bool.true_and]; assumption) | (simp [Value.oneCell', *]; done)) (by unfold maxLen; omega) (by omega) ?_) | (refine s_append 2 1 hF rfl rfl sl32 el22 (hF.ev rfl) (hF.ev rfl) hS rfl rfl rfl (by first | rfl | (simp only [List.all_cons, List.all_nil, Value.oneCell', Bool.and_true, Bool.true_and]; assumption) | (simp [Value.oneCell', *]; done)) (by unfold maxLen; omega) (by omega) ?_) | (refine s_append 2 3 hF rfl rfl sl32 el22 (hF.ev rfl) (hF.ev rfl) hS rfl rfl rfl (by first | rfl | (simp only [List.all_cons, List.all_nil, Value.oneCell', Bool.and_true, Bool.true_and]; assumption) | (simp [Value.oneCell', *]; done)) (by unfold maxLen; omega) (by omega) ?_) | (refine s_append 2 4 hF rfl rfl sl32 el22 (hF.ev rfl) (hF.ev rfl) hS rfl rfl rfl (by first | rfl | (simp only [List.all_cons, List.all_nil, Value.oneCell', Bool.and_true, Bool.true_and]; assumption) | (simp [Value.oneCell', *]; done)) (by unfold maxLen; omega) (by omega) ?_) | (refine s_append 2 5 hF rfl rfl sl32 el22 (hF.ev rfl) (hF.ev rfl) hS rfl rfl rfl (by first | rfl | (simp only [List.all_cons, List.all_nil, Value.oneCell', Bool.and_true, Bool.true_and]; assumption) | (simp [Value.oneCell', *]; done)) (by unfold maxLen; omega) (by omega) ?_) | (refine s_append 3 0 hF rfl rfl sl32 el22 (hF.ev rfl) (hF.ev rfl) hS rfl rfl rfl (by first | rfl | (simp only [List.all_cons, List.all_nil, Value.oneCell', Bool.and_true, Bool.true_and]; assumption) | (simp [Value.oneCell', *]; done)) (by unfold maxLen; omega) (by omega) ?_) | (refine s_append 3 1 hF rfl rfl sl32 el22 (hF.ev rfl) (hF.ev rfl) hS rfl rfl rfl (by first | rfl | (simp only [List.all_cons, List.all_nil, Value.oneCell', Bool.and_true, Bool.true_and]; assumption) | (simp [Value.oneCell', *]; done)) (by unfold maxLen; omega) (by omega) ?_) | (refine s_append 3 2 hF rfl rfl sl32 el22 (hF.ev rfl) (hF.ev rfl) hS rfl rfl rfl (by first | rfl | (simp only [List.all_cons, List.all_nil, Value.oneCell', Bool.and_true, Bool.true_and]; assumption) | (simp [Value.oneCell', *]; done)) (by unfold maxLen; omega) (by omega) ?_) | (refine s_append 3 4 hF rfl rfl sl32 el22 (hF.ev rfl) (hF.ev rfl) hS rfl rfl rfl (by first | rfl | (simp only [List.all_cons, List.all_nil, Value.oneCell', Bool.and_true, Bool.true_and]; assumption) | (simp [Value.oneCell', *]; done)) (by unfold maxLen; omega) (by omega) ?_) | (refine s_append 3 5 hF rfl rfl sl32 el22 (hF.ev rfl) (hF.ev rfl) hS rfl rfl rfl (by first | rfl | (simp only [List.all_cons, List.all_nil, Value.oneCell', Bool.and_true, Bool.true_and]; assumption) | (simp [Value.oneCell', *]; done)) (by unfold maxLen; omega) (by omega) ?_) | (refine s_append 4 0 hF rfl rfl sl32 el22 (hF.ev rfl) (hF.ev rfl) hS rfl rfl rfl (by first | rfl | (simp only [List.all_cons, List.all_nil, Value.oneCell', Bool.and_true, Bool.true_and]; assumption) | (simp [Value.oneCell', *]; done)) (by unfold maxLen; omega) (by omega) ?_) | (refine s_append 4 1 hF rfl rfl sl32 el22 (hF.ev rfl) (hF.ev rfl) hS rfl rfl rfl (by first | rfl | (simp only [List.all_cons, List.all_nil, Value.oneCell', Bool.and_true, Bool.true_and]; assumption) | (simp [Value.oneCell', *]; done)) (by unfold maxLen; omega) (by omega) ?_) | (refine s_append 4 2 hF rfl rfl sl32 el22 (hF.ev rfl) (hF.ev rfl) hS rfl rfl rfl (by first | rfl | (simp only [List.all_cons, List.all_nil, Value.oneCell', Bool.and_true, Bool.true_and]; assumption) | (simp [Value.oneCell', *]; done)) (by unfold maxLen; omega) (by omega) ?_) | (refine s_append 4 3 hF rfl rfl sl32 el22 (hF.ev rfl) (hF.ev rfl) hS rfl rfl rfl (by first | rfl | (simp only [List.all_cons, List.all_nil, Value.oneCell', Bool.and_true, Bool.true_and]; assumption) | (simp [Value.oneCell', *]; done)) (by unfold maxLen; omega) (by omega) ?_) | (refine s_append 4 5 hF rfl rfl sl32 el22 (hF.ev rfl) (hF.ev rfl) hS rfl rfl rfl (by first | rfl | (simp only [List.all_cons, List.all_nil, Value.oneCell', Bool.and_true, Bool.true_and]; assumption) | (simp [Value.oneCell', *]; done)) (by unfold maxLen; omega) (by omega) ?_) | (refine s_append 5 0 hF rfl rfl sl32 el22 (hF.ev rfl) (hF.ev rfl) hS rfl rfl rfl (by first | rfl | (simp only [List.all_cons, List.all_nil, Value.oneCell', Bool.and_true, Bool.true_and]; assumption) | (simp [Value.oneCell', *]; done)) (by unfold maxLen; omega) (by omega) ?_) | (refine s_append 5 1 hF rfl rfl sl32 el22 (hF.ev rfl) (hF.ev rfl) hS rfl rfl rfl (by first | rfl | (simp only [List.all_cons, List.all_nil, Value.oneCell', Bool.and_true, Bool.true_and]; assumption) | (simp [Value.oneCell', *]; done)) (by unfold maxLen; omega) (by omega) ?_) | (refine s_append 5 2 hF rfl rfl sl32 el22 (hF.ev rfl) (hF.ev rfl) hS rfl rfl rfl (by first | rfl | (simp only [List.all_cons, List.all_nil, Value.oneCell', Bool.and_true, Bool.true_and]; assumption) | (simp [Value.oneCell', *]; done)) (by unfold maxLen; omega) (by omega) ?_) | (refine s_append 5 3 hF rfl rfl sl32 el22 (hF.ev rfl) (hF.ev rfl) hS rfl rfl rfl (by first | rfl | (simp only [List.all_cons, List.all_nil, Value.oneCell', Bool.and_true, Bool.true_and]; assumption) | (simp [Value.oneCell', *]; done)) (by unfold maxLen; omega) (by omega) ?_) | (refine s_append 5 4 hF rfl rfl sl32 el22 (hF.ev rfl) (hF.ev rfl) hS rfl rfl rfl (by first | rfl | (simp only [List.all_cons, List.all_nil, Value.oneCell', Bool.and_true, Bool.true_and]; assumption) | (simp [Value.oneCell', *]; done)) (by unfold maxLen; omega) (by omega) ?_)); (clear hS hF; intro A112 q112 w hS a hF; (try simp only [upd, del] at hS))
          refine s_pu hF rfl rfl rfl ((by first | exact pu_nil (hF.ev rfl) | exact pu_nilf (hF.ev rfl))) ?_; clear hF; intro a hF
          refine s_pu hF rfl rfl rfl ((by first | exact pu_field fd34_2 (hF.ev rfl) | exact pu_fieldA fd34_2 (hF.ev rfl))) ?_; clear hF; intro a hF
          (first | (refine s_rstore 0 hF rfl (hF.ev rfl) (hF.ev rfl) hS rfl sz32 rfl (by omega) ?_) | (refine s_rstore 1 hF rfl (hF.ev rfl) (hF.ev rfl) hS rfl sz32 rfl (by omega) ?_) | (refine s_rstore 2 hF rfl (hF.ev rfl) (hF.ev rfl) hS rfl sz32 rfl (by omega) ?_) | (refine s_rstore 3 hF rfl (hF.ev rfl) (hF.ev rfl) hS rfl sz32 rfl (by omega) ?_) | (refine s_rstore 4 hF rfl (hF.ev rfl) (hF.ev rfl) hS rfl sz32 rfl (by omega) ?_) | (refine s_rstore 5 hF rfl (hF.ev rfl) (hF.ev rfl) hS rfl sz32 rfl (by omega) ?_) | (refine s_store (vs := [_]) (cs' := #[_, _, _]) 0 hF rfl (hF.ev rfl) (hF.ev rfl) hS rfl rfl sz32 (by first | rfl | (simp only [List.all_cons, List.all_nil, Value.oneCell', Bool.and_true, Bool.true_and]; assumption) | (simp [Value.oneCell', *]; done)) (by first | exact Nat.le_of_ble_eq_true rfl | (simp [Value.cells]; omega)) rfl ?_) | (refine s_store (vs := [_]) (cs' := #[_, _, _]) 1 hF rfl (hF.ev rfl) (hF.ev rfl) hS rfl rfl sz32 (by first | rfl | (simp only [List.all_cons, List.all_nil, Value.oneCell', Bool.and_true, Bool.true_and]; assumption) | (simp [Value.oneCell', *]; done)) (by first | exact Nat.le_of_ble_eq_true rfl | (simp [Value.cells]; omega)) rfl ?_) | (refine s_store (vs := [_]) (cs' := #[_, _, _]) 2 hF rfl (hF.ev rfl) (hF.ev rfl) hS rfl rfl sz32 (by first | rfl | (simp only [List.all_cons, List.all_nil, Value.oneCell', Bool.and_true, Bool.true_and]; assumption) | (simp [Value.oneCell', *]; done)) (by first | exact Nat.le_of_ble_eq_true rfl | (simp [Value.cells]; omega)) rfl ?_) | (refine s_store (vs := [_]) (cs' := #[_, _, _]) 3 hF rfl (hF.ev rfl) (hF.ev rfl) hS rfl rfl sz32 (by first | rfl | (simp only [List.all_cons, List.all_nil, Value.oneCell', Bool.and_true, Bool.true_and]; assumption) | (simp [Value.oneCell', *]; done)) (by first | exact Nat.le_of_ble_eq_true rfl | (simp [Value.cells]; omega)) rfl ?_) | (refine s_store (vs := [_]) (cs' := #[_, _, _]) 4 hF rfl (hF.ev rfl) (hF.ev rfl) hS rfl rfl sz32 (by first | rfl | (simp only [List.all_cons, List.all_nil, Value.oneCell', Bool.and_true, Bool.true_and]; assumption) | (simp [Value.oneCell', *]; done)) (by first | exact Nat.le_of_ble_eq_true rfl | (simp [Value.cells]; omega)) rfl ?_) | (refine s_store (vs := [_]) (cs' := #[_, _, _]) 5 hF rfl (hF.ev rfl) (hF.ev rfl) hS rfl rfl sz32 (by first | rfl | (simp only [List.all_cons, List.all_nil, Value.oneCell', Bool.and_true, Bool.true_and]; assumption) | (simp [Value.oneCell', *]; done)) (by first | exact Nat.le_of_ble_eq_true rfl | (simp [Value.cells]; omega)) rfl ?_) | (refine s_store (vs := [_]) (cs' := _) 0 hF rfl (hF.ev rfl) (hF.ev rfl) hS rfl rfl sz32 (by first | rfl | (simp only [List.all_cons, List.all_nil, Value.oneCell', Bool.and_true, Bool.true_and]; assumption) | (simp [Value.oneCell', *]; done)) (by first | exact Nat.le_of_ble_eq_true rfl | (simp [Value.cells]; omega)) rfl ?_) | (refine s_store (vs := [_]) (cs' := _) 1 hF rfl (hF.ev rfl) (hF.ev rfl) hS rfl rfl sz32 (by first | rfl | (simp only [List.all_cons, List.all_nil, Value.oneCell', Bool.and_true, Bool.true_and]; assumption) | (simp [Value.oneCell', *]; done)) (by first | exact Nat.le_of_ble_eq_true rfl | (simp [Value.cells]; omega)) rfl ?_) | (refine s_store (vs := [_]) (cs' := _) 2 hF rfl (hF.ev rfl) (hF.ev rfl) hS rfl rfl sz32 (by first | rfl | (simp only [List.all_cons, List.all_nil, Value.oneCell', Bool.and_true, Bool.true_and]; assumption) | (simp [Value.oneCell', *]; done)) (by first | exact Nat.le_of_ble_eq_true rfl | (simp [Value.cells]; omega)) rfl ?_) | (refine s_store (vs := [_]) (cs' := _) 3 hF rfl (hF.ev rfl) (hF.ev rfl) hS rfl rfl sz32 (by first | rfl | (simp only [List.all_cons, List.all_nil, Value.oneCell', Bool.and_true, Bool.true_and]; assumption) | (simp [Value.oneCell', *]; done)) (by first | exact Nat.le_of_ble_eq_true rfl | (simp [Value.cells]; omega)) rfl ?_) | (refine s_store (vs := [_]) (cs' := _) 4 hF rfl (hF.ev rfl) (hF.ev rfl) hS rfl rfl sz32 (by first | rfl | (simp only [List.all_cons, List.all_nil, Value.oneCell', Bool.and_true, Bool.true_and]; assumption) | (simp [Value.oneCell', *]; done)) (by first | exact Nat.le_of_ble_eq_true rfl | (simp [Value.cells]; omega)) rfl ?_) | (refine s_store (vs := [_]) (cs' := _) 5 hF rfl (hF.ev rfl) (hF.ev rfl) hS rfl rfl sz32 (by first | rfl | (simp only [List.all_cons, List.all_nil, Value.oneCell', Bool.and_true, Bool.true_and]; assumption) | (simp [Value.oneCell', *]; done)) (by first | exact Nat.le_of_ble_eq_true rfl | (simp [Value.cells]; omega)) rfl ?_))
          clear hS; intro w hS; (try simp only [upd, del] at hS)
          refine s_done ?_
          replace hS := (hS.drop 1).sel [1, 1, 1, 0]
          simp only [selR, nth, del] at hS
          refine hK20 _ _ ?_; clear hK20
          -- region 23
          refine wp_region_lit ?_
          refine s_pu hF rfl rfl rfl (pu_move (hF.ev rfl)) ?_; clear hF; intro a hF
          refine s_pu hF rfl rfl rfl (pu_move (hF.ev rfl)) ?_; clear hF; intro a hF
          refine s_news hF rfl rfl rfl (ef_lit1 (cs := [_]) sl22 ze3 rfl (hF.ev rfl) (by first | rfl | exact cells_one (by assumption)) rfl (by omega) (by omega)) hS ?_; clear hF hS; intro b117 w hS a hF
          refine s_append3 6 0 hF rfl rfl sl22 el3 (hF.ev rfl) (hF.ev rfl) hS rfl rfl rfl rfl (by unfold maxLen; omega) (by omega) ?_; clear hF hS; intro A118 q118 w C1 hcs hS a hF
          rw [ints_snoc, ← List.replicate_succ'] at hS
          have key : ∃ j1, l.length ≤ j1 ∧ j1 ≤ (l2 ++ [Value.slice A n c]).length ∧ (∀ j v, j1 ≤ j → (l2 ++ [Value.slice A n c])[j]? = some v → ∃ n' c', v = .slice A118 n' c' ∧ n' ≤ n + 1) ∧
              Sat w0 w (rowC 3 1 (.slice A118 (n + 1) q118) (n + 1) (ints (List.replicate (n + 1) m)) :: marksC ((l2 ++ [Value.slice A n c]).take j1) :: .obj b117 (.cells #[.int .i64 m] 3) :: .obj b (.cells #[.slice (some ⟨gf, 0, none⟩) fs.length cf, .slice Aw ws.length cw, .slice A112 (l2.length + 1) q112] 34) :: rowC 22 1 (.slice (some ⟨gf, 0, none⟩) fs.length cf) fs.length (fs.map (·.1)) :: rowC 22 1 (.slice Aw ws.length cw) ws.length (ws.map (·.1)) ::
                rowC 22 1 (.slice A112 (l2.length + 1) q112) (l2.length + 1) (l2 ++ [Value.slice A n c]) :: FR (gs.drop (i + 1)) :: FR ws :: C) := by
            have hnew2 : ∀ j v, j0 ≤ j → (l2 ++ [Value.slice A n c])[j]? = some v → ∃ n' c', v = .slice A n' c' ∧ n' ≤ n := by
              intro j v hj hv
              by_cases h : j < l2.length
              · rw [List.getElem?_append_left h] at hv
                exact hnew j v hj hv
              · rw [List.getElem?_append_right (by omega)] at hv
                have h0 := (List.getElem?_eq_some_iff.1 hv).1
                simp only [List.length_singleton] at h0
                rw [show j - l2.length = 0 by omega] at hv
                cases hv
                exact ⟨n, c, rfl, Nat.le_refl _⟩
            rcases hcs with ⟨rfl, rfl⟩ | rfl
            · refine ⟨j0, hj1, by simp; omega, fun j v hj hv => ?_, ?_⟩
              · obtain ⟨n', c', e, h⟩ := hnew2 j v hj hv
                exact ⟨n', c', e, by omega⟩
              · have h1 := hS.sel [0, 5]
                simp only [selR, nth, del] at h1
                rw [List.take_append_of_le_length hj2]
                exact h1
            · refine ⟨(l2 ++ [Value.slice A n c]).length, by simp; omega, Nat.le_refl _, fun j v hj hv => ?_, ?_⟩
              · have := (List.getElem?_eq_some_iff.1 hv).1
                omega
              · have h1 := hS.sel [1, 6]
                simp only [selR, nth, del] at h1
                rw [← List.take_append_of_le_length (l₂ := [Value.slice A n c]) hj2] at h1
                have h2 := marks_split (q := q + i) h1 (by omega) (by simp; omega) (by omega) (by simp; omega) (by rw [hm]; omega) hnew2
                have h3 := h2.front 1 rfl
                rw [List.take_length]
                exact h3
          obtain ⟨j1, hj3, hj4, hnew3, hS⟩ := key
          refine s_pu hF rfl rfl rfl (pu_assign (hF.ev rfl)) ?_; clear hF; intro a hF
          refine s_done ?_
          refine blk_normal ?_
          refine hK19 _ _ ?_; clear hK19
          -- region 21
          refine wp_region_lit ?_
          refine s_pu hF rfl rfl rfl (pu_move (hF.ev rfl)) ?_; clear hF; intro a hF
          refine s_pu hF rfl rfl rfl ((by first | exact pu_add64 (hF.ev rfl) (hF.ev rfl) (by omega) | exact pu_add (hF.ev rfl) (hF.ev rfl))) ?_; clear hF; intro a hF
          refine s_pu hF rfl rfl rfl (pu_assign (hF.ev rfl)) ?_; clear hF; intro a hF
          refine s_done ?_
          replace hS := (hS.drop 2).sel [2, 2, 2, 2, 1, 0]
          simp only [selR, nth, del] at hS
          have e2 : (l2 ++ [Value.slice A n c]).length = l2.length + 1 := by simp
          refine ⟨_, by omega, k + 1, l2 ++ [Value.slice A n c], A112, A118, q112, n + 1, q118, j1, rfl, by omega, by rw [e2]; omega, hj3, hj4, ?_, hnew3, hF.sub ⟨rfl, rfl, rfl, rfl, rfl, trivial⟩, ?_⟩
          · omega
          · rw [e2]
            exact hS
        · -- cond 5 false
          try simp only [decide_eq_true_eq, decide_eq_false_iff_not, Bool.not_eq_true', Bool.not_eq_false', Int.not_lt, Int.not_le, ne_eq, Decidable.not_not, Bool.or_eq_true, Bool.or_eq_false_iff, Bool.and_eq_true, Bool.and_eq_false_imp] at hc5
          refine wp_exit ?_
          refine then_exit ?_
          refine then_exit ?_
          refine blk_exit ?_
          refine blk_normal ?_
          refine hK13 _ _ ?_; clear hK13
          -- region 16
          refine wp_region_lit ?_
          refine s_pu hF rfl rfl rfl (pu_move (hF.ev rfl)) ?_; clear hF; intro a hF
          refine s_pu hF rfl rfl rfl ((by first | exact pu_add64 (hF.ev rfl) (hF.ev rfl) (by omega) | exact pu_add (hF.ev rfl) (hF.ev rfl))) ?_; clear hF; intro a hF
          refine s_pu hF rfl rfl rfl (pu_assign (hF.ev rfl)) ?_; clear hF; intro a hF
          refine s_done ?_
          have hkk : k = 12 := by omega
          subst hkk
          have h1 := hS.sel [5, 4]
          simp only [selR, nth, del] at h1
          have h2 := (marks_split (q := q + i) h1 (by omega) hj2 (by omega) (by omega) (by rw [hm]; omega) hnew).sel [1, 1, 1, 1]
          simp only [selR, nth, del] at h2
          exact ⟨_, by omega, i + 1, l2, _, _, rfl, by omega, by omega, hF.sub ⟨rfl, rfl, trivial⟩, h2⟩
      · -- cond 4 false
        try simp only [decide_eq_true_eq, decide_eq_false_iff_not, Bool.not_eq_true', Bool.not_eq_false', Int.not_lt, Int.not_le, ne_eq, Decidable.not_not, Bool.or_eq_true, Bool.or_eq_false_iff, Bool.and_eq_true, Bool.and_eq_false_imp] at hc4
        refine wp_exit ?_
        refine then_exit ?_
        refine then_exit ?_
        refine blk_exit ?_
        refine hK9 _ _ ?_; clear hK9
        refine wp_seq_k fun K13 hK13 => ?_
        -- region 24
        refine wp_region_lit ?_
        refine s_pu hF rfl rfl rfl (pu_move (hF.ev rfl)) ?_; clear hF; intro a hF
        refine s_pu hF rfl rfl rfl (pu_move (hF.ev rfl)) ?_; clear hF; intro a hF
        refine s_pu hF rfl rfl rfl ((by first | exact pu_nil (hF.ev rfl) | exact pu_nilf (hF.ev rfl))) ?_; clear hF; intro a hF
        refine s_pu hF rfl rfl rfl ((by first | exact pu_field fd34_0 (hF.ev rfl) | exact pu_fieldA fd34_0 (hF.ev rfl))) ?_; clear hF; intro a hF
        (first | (refine s_rstore 0 hF rfl (hF.ev rfl) (hF.ev rfl) hS rfl sz32 rfl (by omega) ?_) | (refine s_rstore 1 hF rfl (hF.ev rfl) (hF.ev rfl) hS rfl sz32 rfl (by omega) ?_) | (refine s_rstore 2 hF rfl (hF.ev rfl) (hF.ev rfl) hS rfl sz32 rfl (by omega) ?_) | (refine s_rstore 3 hF rfl (hF.ev rfl) (hF.ev rfl) hS rfl sz32 rfl (by omega) ?_) | (refine s_rstore 4 hF rfl (hF.ev rfl) (hF.ev rfl) hS rfl sz32 rfl (by omega) ?_) | (refine s_rstore 5 hF rfl (hF.ev rfl) (hF.ev rfl) hS rfl sz32 rfl (by omega) ?_) | (refine s_store (vs := [_]) (cs' := #[_, _, _]) 0 hF rfl (hF.ev rfl) (hF.ev rfl) hS rfl rfl sz32 (by first | rfl | (simp only [List.all_cons, List.all_nil, Value.oneCell', Bool.and_true, Bool.true_and]; assumption) | (simp [Value.oneCell', *]; done)) (by first | exact Nat.le_of_ble_eq_true rfl | (simp [Value.cells]; omega)) rfl ?_) | (refine s_store (vs := [_]) (cs' := #[_, _, _]) 1 hF rfl (hF.ev rfl) (hF.ev rfl) hS rfl rfl sz32 (by first | rfl | (simp only [List.all_cons, List.all_nil, Value.oneCell', Bool.and_true, Bool.true_and]; assumption) | (simp [Value.oneCell', *]; done)) (by first | exact Nat.le_of_ble_eq_true rfl | (simp [Value.cells]; omega)) rfl ?_) | (refine s_store (vs := [_]) (cs' := #[_, _, _]) 2 hF rfl (hF.ev rfl) (hF.ev rfl) hS rfl rfl sz32 (by first | rfl | (simp only [List.all_cons, List.all_nil, Value.oneCell', Bool.and_true, Bool.true_and]; assumption) | (simp [Value.oneCell', *]; done)) (by first | exact Nat.le_of_ble_eq_true rfl | (simp [Value.cells]; omega)) rfl ?_) | (refine s_store (vs := [_]) (cs' := #[_, _, _]) 3 hF rfl (hF.ev rfl) (hF.ev rfl) hS rfl rfl sz32 (by first | rfl | (simp only [List.all_cons, List.all_nil, Value.oneCell', Bool.and_true, Bool.true_and]; assumption) | (simp [Value.oneCell', *]; done)) (by first | exact Nat.le_of_ble_eq_true rfl | (simp [Value.cells]; omega)) rfl ?_) | (refine s_store (vs := [_]) (cs' := #[_, _, _]) 4 hF rfl (hF.ev rfl) (hF.ev rfl) hS rfl rfl sz32 (by first | rfl | (simp only [List.all_cons, List.all_nil, Value.oneCell', Bool.and_true, Bool.true_and]; assumption) | (simp [Value.oneCell', *]; done)) (by first | exact Nat.le_of_ble_eq_true rfl | (simp [Value.cells]; omega)) rfl ?_) | (refine s_store (vs := [_]) (cs' := #[_, _, _]) 5 hF rfl (hF.ev rfl) (hF.ev rfl) hS rfl rfl sz32 (by first | rfl | (simp only [List.all_cons, List.all_nil, Value.oneCell', Bool.and_true, Bool.true_and]; assumption) | (simp [Value.oneCell', *]; done)) (by first | exact Nat.le_of_ble_eq_true rfl | (simp [Value.cells]; omega)) rfl ?_) | (refine s_store (vs := [_]) (cs' := _) 0 hF rfl (hF.ev rfl) (hF.ev rfl) hS rfl rfl sz32 (by first | rfl | (simp only [List.all_cons, List.all_nil, Value.oneCell', Bool.and_true, Bool.true_and]; assumption) | (simp [Value.oneCell', *]; done)) (by first | exact Nat.le_of_ble_eq_true rfl | (simp [Value.cells]; omega)) rfl ?_) | (refine s_store (vs := [_]) (cs' := _) 1 hF rfl (hF.ev rfl) (hF.ev rfl) hS rfl rfl sz32 (by first | rfl | (simp only [List.all_cons, List.all_nil, Value.oneCell', Bool.and_true, Bool.true_and]; assumption) | (simp [Value.oneCell', *]; done)) (by first | exact Nat.le_of_ble_eq_true rfl | (simp [Value.cells]; omega)) rfl ?_) | (refine s_store (vs := [_]) (cs' := _) 2 hF rfl (hF.ev rfl) (hF.ev rfl) hS rfl rfl sz32 (by first | rfl | (simp only [List.all_cons, List.all_nil, Value.oneCell', Bool.and_true, Bool.true_and]; assumption) | (simp [Value.oneCell', *]; done)) (by first | exact Nat.le_of_ble_eq_true rfl | (simp [Value.cells]; omega)) rfl ?_) | (refine s_store (vs := [_]) (cs' := _) 3 hF rfl (hF.ev rfl) (hF.ev rfl) hS rfl rfl sz32 (by first | rfl | (simp only [List.all_cons, List.all_nil, Value.oneCell', Bool.and_true, Bool.true_and]; assumption) | (simp [Value.oneCell', *]; done)) (by first | exact Nat.le_of_ble_eq_true rfl | (simp [Value.cells]; omega)) rfl ?_) | (refine s_store (vs := [_]) (cs' := _) 4 hF rfl (hF.ev rfl) (hF.ev rfl) hS rfl rfl sz32 (by first | rfl | (simp only [List.all_cons, List.all_nil, Value.oneCell', Bool.and_true, Bool.true_and]; assumption) | (simp [Value.oneCell', *]; done)) (by first | exact Nat.le_of_ble_eq_true rfl | (simp [Value.cells]; omega)) rfl ?_) | (refine s_store (vs := [_]) (cs' := _) 5 hF rfl (hF.ev rfl) (hF.ev rfl) hS rfl rfl sz32 (by first | rfl | (simp only [List.all_cons, List.all_nil, Value.oneCell', Bool.and_true, Bool.true_and]; assumption) | (simp [Value.oneCell', *]; done)) (by first | exact Nat.le_of_ble_eq_true rfl | (simp [Value.cells]; omega)) rfl ?_))
        clear hS; intro w hS; (try simp only [upd, del] at hS)
        refine s_pu hF rfl rfl rfl ((by first | exact pu_nil (hF.ev rfl) | exact pu_nilf (hF.ev rfl))) ?_; clear hF; intro a hF
        refine s_pu hF rfl rfl rfl ((by first | exact pu_field fd34_1 (hF.ev rfl) | exact pu_fieldA fd34_1 (hF.ev rfl))) ?_; clear hF; intro a hF
        (first | (refine s_rstore 0 hF rfl (hF.ev rfl) (hF.ev rfl) hS rfl sz32 rfl (by omega) ?_) | (refine s_rstore 1 hF rfl (hF.ev rfl) (hF.ev rfl) hS rfl sz32 rfl (by omega) ?_) | (refine s_rstore 2 hF rfl (hF.ev rfl) (hF.ev rfl) hS rfl sz32 rfl (by omega) ?_) | (refine s_rstore 3 hF rfl (hF.ev rfl) (hF.ev rfl) hS rfl sz32 rfl (by omega) ?_) | (refine s_rstore 4 hF rfl (hF.ev rfl) (hF.ev rfl) hS rfl sz32 rfl (by omega) ?_) | (refine s_rstore 5 hF rfl (hF.ev rfl) (hF.ev rfl) hS rfl sz32 rfl (by omega) ?_) | (refine s_store (vs := [_]) (cs' := #[_, _, _]) 0 hF rfl (hF.ev rfl) (hF.ev rfl) hS rfl rfl sz32 (by first | rfl | (simp only [List.all_cons, List.all_nil, Value.oneCell', Bool.and_true, Bool.true_and]; assumption) | (simp [Value.oneCell', *]; done)) (by first | exact Nat.le_of_ble_eq_true rfl | (simp [Value.cells]; omega)) rfl ?_) | (refine s_store (vs := [_]) (cs' := #[_, _, _]) 1 hF rfl (hF.ev rfl) (hF.ev rfl) hS rfl rfl sz32 (by first | rfl | (simp only [List.all_cons, List.all_nil, Value.oneCell', Bool.and_true, Bool.true_and]; assumption) | (simp [Value.oneCell', *]; done)) (by first | exact Nat.le_of_ble_eq_true rfl | (simp [Value.cells]; omega)) rfl ?_) | (refine s_store (vs := [_]) (cs' := #[_, _, _]) 2 hF rfl (hF.ev rfl) (hF.ev rfl) hS rfl rfl sz32 (by first | rfl | (simp only [List.all_cons, List.all_nil, Value.oneCell', Bool.and_true, Bool.true_and]; assumption) | (simp [Value.oneCell', *]; done)) (by first | exact Nat.le_of_ble_eq_true rfl | (simp [Value.cells]; omega)) rfl ?_) | (refine s_store (vs := [_]) (cs' := #[_, _, _]) 3 hF rfl (hF.ev rfl) (hF.ev rfl) hS rfl rfl sz32 (by first | rfl | (simp only [List.all_cons, List.all_nil, Value.oneCell', Bool.and_true, Bool.true_and]; assumption) | (simp [Value.oneCell', *]; done)) (by first | exact Nat.le_of_ble_eq_true rfl | (simp [Value.cells]; omega)) rfl ?_) | (refine s_store (vs := [_]) (cs' := #[_, _, _]) 4 hF rfl (hF.ev rfl) (hF.ev rfl) hS rfl rfl sz32 (by first | rfl | (simp only [List.all_cons, List.all_nil, Value.oneCell', Bool.and_true, Bool.true_and]; assumption) | (simp [Value.oneCell', *]; done)) (by first | exact Nat.le_of_ble_eq_true rfl | (simp [Value.cells]; omega)) rfl ?_) | (refine s_store (vs := [_]) (cs' := #[_, _, _]) 5 hF rfl (hF.ev rfl) (hF.ev rfl) hS rfl rfl sz32 (by first | rfl | (simp only [List.all_cons, List.all_nil, Value.oneCell', Bool.and_true, Bool.true_and]; assumption) | (simp [Value.oneCell', *]; done)) (by first | exact Nat.le_of_ble_eq_true rfl | (simp [Value.cells]; omega)) rfl ?_) | (refine s_store (vs := [_]) (cs' := _) 0 hF rfl (hF.ev rfl) (hF.ev rfl) hS rfl rfl sz32 (by first | rfl | (simp only [List.all_cons, List.all_nil, Value.oneCell', Bool.and_true, Bool.true_and]; assumption) | (simp [Value.oneCell', *]; done)) (by first | exact Nat.le_of_ble_eq_true rfl | (simp [Value.cells]; omega)) rfl ?_) | (refine s_store (vs := [_]) (cs' := _) 1 hF rfl (hF.ev rfl) (hF.ev rfl) hS rfl rfl sz32 (by first | rfl | (simp only [List.all_cons, List.all_nil, Value.oneCell', Bool.and_true, Bool.true_and]; assumption) | (simp [Value.oneCell', *]; done)) (by first | exact Nat.le_of_ble_eq_true rfl | (simp [Value.cells]; omega)) rfl ?_) | (refine s_store (vs := [_]) (cs' := _) 2 hF rfl (hF.ev rfl) (hF.ev rfl) hS rfl rfl sz32 (by first | rfl | (simp only [List.all_cons, List.all_nil, Value.oneCell', Bool.and_true, Bool.true_and]; assumption) | (simp [Value.oneCell', *]; done)) (by first | exact Nat.le_of_ble_eq_true rfl | (simp [Value.cells]; omega)) rfl ?_) | (refine s_store (vs := [_]) (cs' := _) 3 hF rfl (hF.ev rfl) (hF.ev rfl) hS rfl rfl sz32 (by first | rfl | (simp only [List.all_cons, List.all_nil, Value.oneCell', Bool.and_true, Bool.true_and]; assumption) | (simp [Value.oneCell', *]; done)) (by first | exact Nat.le_of_ble_eq_true rfl | (simp [Value.cells]; omega)) rfl ?_) | (refine s_store (vs := [_]) (cs' := _) 4 hF rfl (hF.ev rfl) (hF.ev rfl) hS rfl rfl sz32 (by first | rfl | (simp only [List.all_cons, List.all_nil, Value.oneCell', Bool.and_true, Bool.true_and]; assumption) | (simp [Value.oneCell', *]; done)) (by first | exact Nat.le_of_ble_eq_true rfl | (simp [Value.cells]; omega)) rfl ?_) | (refine s_store (vs := [_]) (cs' := _) 5 hF rfl (hF.ev rfl) (hF.ev rfl) hS rfl rfl sz32 (by first | rfl | (simp only [List.all_cons, List.all_nil, Value.oneCell', Bool.and_true, Bool.true_and]; assumption) | (simp [Value.oneCell', *]; done)) (by first | exact Nat.le_of_ble_eq_true rfl | (simp [Value.cells]; omega)) rfl ?_))
        clear hS; intro w hS; (try simp only [upd, del] at hS)
        refine s_done ?_
        have hii : i = fs.length := by omega
        subst hii
        have hmb : 12 * (q + fs.length) ≤ 1099511627776 := by omega
        refine hK13 _ _ ?_; clear hK13
        refine wp_seq_k fun K14 hK14 => ?_
        refine wp_seq_k fun K15 hK15 => ?_
        -- region 25
        refine wp_region_lit ?_
        refine s_pu hF rfl rfl rfl (pu_assign (hF.ev rfl)) ?_; clear hF; intro a hF
        refine s_done ?_
        refine hK15 _ _ ?_; clear hK15
        refine wp_block ?_
        have hS5 : Sat w0 w (.obj b (.cells #[.slice none 0 0, .slice none 0 0, .slice Al l.length cl] 34) :: rowC 22 1 (.slice Al l.length cl) l.length l :: marksC l :: C) := by
          have h1 := (((hS.drop 6).drop 5).drop 2).drop 1
          exact h1
        clear hS
        have hS := hS5
        clear hS5
        refine wp_ind (fun j a w => ∃ (i : Nat), j = l.length - i ∧ i ≤ l.length ∧ Fr a 160 [(0, .pointer (some ⟨b, 0, none⟩)), (11, .int .i64 i)] ∧
          Sat w0 w (.obj b (.cells #[.slice none 0 0, .slice none 0 0, .slice Al l.length cl] 34) :: rowC 22 1 (.slice Al l.length cl) l.length l :: marksC l :: C)) l.length
          ⟨0, by omega, by omega, hF.sub ⟨rfl, rfl, trivial⟩, hS⟩ ?_
        clear hS hF
        rintro j a w ⟨i, rfl, hi, hF, hS⟩
        refine wp_seq_k fun K16 hK16 => ?_
        refine wp_seq_k fun K17 hK17 => ?_
        -- region 26
        refine wp_region_lit ?_
        refine s_pu hF rfl rfl rfl (pu_move (hF.ev rfl)) ?_; clear hF; intro a hF
        refine s_pu hF rfl rfl rfl (pu_move (hF.ev rfl)) ?_; clear hF; intro a hF
        refine s_pu hF rfl rfl rfl ((by first | exact pu_nil (hF.ev rfl) | exact pu_nilf (hF.ev rfl))) ?_; clear hF; intro a hF
        refine s_pu hF rfl rfl rfl ((by first | exact pu_field fd34_2 (hF.ev rfl) | exact pu_fieldA fd34_2 (hF.ev rfl))) ?_; clear hF; intro a hF
        refine s_rd hF rfl rfl rfl (by first | exact rd_load pl32 (hF.ev rfl) (by assumption) | exact rd_load pl32 (hF.ev rfl) (hS.cellL (i := 0) rfl rfl) | exact rd_load pl32 (hF.ev rfl) (hS.cellL (i := 1) rfl rfl) | exact rd_load pl32 (hF.ev rfl) (hS.cellL (i := 2) rfl rfl) | exact rd_load pl32 (hF.ev rfl) (hS.cellL (i := 3) rfl rfl) | exact rd_load pl32 (hF.ev rfl) (hS.cellL (i := 4) rfl rfl) | exact rd_load pl32 (hF.ev rfl) (hS.cellL (i := 5) rfl rfl) | exact rd_load pl32 (hF.ev rfl) (hS.cell (i := 0) rfl (by assumption)) | exact rd_load pl32 (hF.ev rfl) (hS.cell (i := 1) rfl (by assumption)) | exact rd_load pl32 (hF.ev rfl) (hS.cell (i := 2) rfl (by assumption)) | exact rd_load pl32 (hF.ev rfl) (hS.cell (i := 3) rfl (by assumption)) | exact rd_load pl32 (hF.ev rfl) (hS.cell (i := 4) rfl (by assumption)) | exact rd_load pl32 (hF.ev rfl) (hS.cell (i := 5) rfl (by assumption)) | exact rd_load pl32 (hF.ev rfl) (row_at (i := 0) hS rfl (by first | assumption | rfl)) | exact rd_load pl32 (hF.ev rfl) (row_at0 (i := 0) hS rfl (by first | assumption | rfl)) | exact rd_load pl32 (hF.ev rfl) (row_at (i := 1) hS rfl (by first | assumption | rfl)) | exact rd_load pl32 (hF.ev rfl) (row_at0 (i := 1) hS rfl (by first | assumption | rfl)) | exact rd_load pl32 (hF.ev rfl) (row_at (i := 2) hS rfl (by first | assumption | rfl)) | exact rd_load pl32 (hF.ev rfl) (row_at0 (i := 2) hS rfl (by first | assumption | rfl)) | exact rd_load pl32 (hF.ev rfl) (row_at (i := 3) hS rfl (by first | assumption | rfl)) | exact rd_load pl32 (hF.ev rfl) (row_at0 (i := 3) hS rfl (by first | assumption | rfl)) | exact rd_load pl32 (hF.ev rfl) (row_at (i := 4) hS rfl (by first | assumption | rfl)) | exact rd_load pl32 (hF.ev rfl) (row_at0 (i := 4) hS rfl (by first | assumption | rfl)) | exact rd_load pl32 (hF.ev rfl) (row_at (i := 5) hS rfl (by first | assumption | rfl)) | exact rd_load pl32 (hF.ev rfl) (row_at0 (i := 5) hS rfl (by first | assumption | rfl))) ?_; clear hF; intro a hF
        refine s_pu hF rfl rfl rfl (pu_len sl32 (hF.ev rfl)) ?_; clear hF; intro a hF
        refine s_pu hF rfl rfl rfl (pu_lss (hF.ev rfl) (hF.ev rfl)) ?_; clear hF; intro a hF
        refine s_done ?_
        refine hK17 _ _ ?_; clear hK17
        refine wp_cond_split (hF.ev rfl) (fun hc6 => ?_) (fun hc6 => ?_)
        · -- cond 6 true
          try simp only [decide_eq_true_eq, decide_eq_false_iff_not, Bool.not_eq_true', Bool.not_eq_false', Int.not_lt, Int.not_le, ne_eq, Decidable.not_not, Bool.or_eq_true, Bool.or_eq_false_iff, Bool.and_eq_true, Bool.and_eq_false_imp] at hc6
          have hil : i < l.length := by omega
          obtain ⟨v, hv⟩ : ∃ v, l[i]? = some v := ⟨_, List.getElem?_eq_getElem hil⟩
          obtain ⟨gl, rfl⟩ := row_some (i := 1) hS rfl (by omega)
          obtain ⟨A, n, c, rfl, hn, _⟩ := marks_read (hS.front 2 rfl) hv
          refine wp_skip ?_
          refine hK16 _ _ ?_; clear hK16
          refine wp_seq_k fun K18 hK18 => ?_
          refine wp_block ?_
          refine wp_seq_k fun K19 hK19 => ?_
          -- region 28
          refine wp_region_lit ?_
          refine s_pu hF rfl rfl rfl (pu_assign (hF.ev rfl)) ?_; clear hF; intro a hF
          refine s_done ?_
          refine hK19 _ _ ?_; clear hK19
          refine wp_block ?_
          refine wp_ind (fun j a w => ∃ (k : Nat), j = n - k ∧ k ≤ n ∧ Fr a 160 [(0, .pointer (some ⟨b, 0, none⟩)), (11, .int .i64 i), (12, .int .i64 k)] ∧
            Sat w0 w (.obj b (.cells #[.slice none 0 0, .slice none 0 0, .slice (some ⟨gl, 0, none⟩) l.length cl] 34) :: rowC 22 1 (.slice (some ⟨gl, 0, none⟩) l.length cl) l.length l :: marksC l :: C)) n
            ⟨0, by omega, by omega, hF.sub ⟨rfl, rfl, rfl, trivial⟩, hS⟩ ?_
          clear hS hF
          rintro j a w ⟨k, rfl, hk, hF, hS⟩
          refine wp_seq_k fun K20 hK20 => ?_
          refine wp_seq_k fun K21 hK21 => ?_
          -- region 29
          refine wp_region_lit ?_
          refine s_pu hF rfl rfl rfl (pu_move (hF.ev rfl)) ?_; clear hF; intro a hF
          refine s_pu hF rfl rfl rfl (pu_move (hF.ev rfl)) ?_; clear hF; intro a hF
          refine s_pu hF rfl rfl rfl ((by first | exact pu_nil (hF.ev rfl) | exact pu_nilf (hF.ev rfl))) ?_; clear hF; intro a hF
          refine s_pu hF rfl rfl rfl ((by first | exact pu_field fd34_2 (hF.ev rfl) | exact pu_fieldA fd34_2 (hF.ev rfl))) ?_; clear hF; intro a hF
          refine s_rd hF rfl rfl rfl (by first | exact rd_load pl32 (hF.ev rfl) (by assumption) | exact rd_load pl32 (hF.ev rfl) (hS.cellL (i := 0) rfl rfl) | exact rd_load pl32 (hF.ev rfl) (hS.cellL (i := 1) rfl rfl) | exact rd_load pl32 (hF.ev rfl) (hS.cellL (i := 2) rfl rfl) | exact rd_load pl32 (hF.ev rfl) (hS.cellL (i := 3) rfl rfl) | exact rd_load pl32 (hF.ev rfl) (hS.cellL (i := 4) rfl rfl) | exact rd_load pl32 (hF.ev rfl) (hS.cellL (i := 5) rfl rfl) | exact rd_load pl32 (hF.ev rfl) (hS.cell (i := 0) rfl (by assumption)) | exact rd_load pl32 (hF.ev rfl) (hS.cell (i := 1) rfl (by assumption)) | exact rd_load pl32 (hF.ev rfl) (hS.cell (i := 2) rfl (by assumption)) | exact rd_load pl32 (hF.ev rfl) (hS.cell (i := 3) rfl (by assumption)) | exact rd_load pl32 (hF.ev rfl) (hS.cell (i := 4) rfl (by assumption)) | exact rd_load pl32 (hF.ev rfl) (hS.cell (i := 5) rfl (by assumption)) | exact rd_load pl32 (hF.ev rfl) (row_at (i := 0) hS rfl (by first | assumption | rfl)) | exact rd_load pl32 (hF.ev rfl) (row_at0 (i := 0) hS rfl (by first | assumption | rfl)) | exact rd_load pl32 (hF.ev rfl) (row_at (i := 1) hS rfl (by first | assumption | rfl)) | exact rd_load pl32 (hF.ev rfl) (row_at0 (i := 1) hS rfl (by first | assumption | rfl)) | exact rd_load pl32 (hF.ev rfl) (row_at (i := 2) hS rfl (by first | assumption | rfl)) | exact rd_load pl32 (hF.ev rfl) (row_at0 (i := 2) hS rfl (by first | assumption | rfl)) | exact rd_load pl32 (hF.ev rfl) (row_at (i := 3) hS rfl (by first | assumption | rfl)) | exact rd_load pl32 (hF.ev rfl) (row_at0 (i := 3) hS rfl (by first | assumption | rfl)) | exact rd_load pl32 (hF.ev rfl) (row_at (i := 4) hS rfl (by first | assumption | rfl)) | exact rd_load pl32 (hF.ev rfl) (row_at0 (i := 4) hS rfl (by first | assumption | rfl)) | exact rd_load pl32 (hF.ev rfl) (row_at (i := 5) hS rfl (by first | assumption | rfl)) | exact rd_load pl32 (hF.ev rfl) (row_at0 (i := 5) hS rfl (by first | assumption | rfl))) ?_; clear hF; intro a hF
          refine s_pu hF rfl rfl rfl (pu_move (hF.ev rfl)) ?_; clear hF; intro a hF
          refine s_pu hF rfl rfl rfl ((by first | exact pu_elem sl32 (hF.ev rfl) (hF.ev rfl) (by first | omega | simp) (by first | omega | (simp; done) | (simp; omega)) | exact pu_elemA sl32 (hF.ev rfl) (hF.ev rfl) (by omega) (by omega))) ?_; clear hF; intro a hF
          refine s_rd hF rfl rfl rfl (by first | exact rd_load pl22 (hF.ev rfl) (by assumption) | exact rd_load pl22 (hF.ev rfl) (hS.cellL (i := 0) rfl rfl) | exact rd_load pl22 (hF.ev rfl) (hS.cellL (i := 1) rfl rfl) | exact rd_load pl22 (hF.ev rfl) (hS.cellL (i := 2) rfl rfl) | exact rd_load pl22 (hF.ev rfl) (hS.cellL (i := 3) rfl rfl) | exact rd_load pl22 (hF.ev rfl) (hS.cellL (i := 4) rfl rfl) | exact rd_load pl22 (hF.ev rfl) (hS.cellL (i := 5) rfl rfl) | exact rd_load pl22 (hF.ev rfl) (hS.cell (i := 0) rfl (by assumption)) | exact rd_load pl22 (hF.ev rfl) (hS.cell (i := 1) rfl (by assumption)) | exact rd_load pl22 (hF.ev rfl) (hS.cell (i := 2) rfl (by assumption)) | exact rd_load pl22 (hF.ev rfl) (hS.cell (i := 3) rfl (by assumption)) | exact rd_load pl22 (hF.ev rfl) (hS.cell (i := 4) rfl (by assumption)) | exact rd_load pl22 (hF.ev rfl) (hS.cell (i := 5) rfl (by assumption)) | exact rd_load pl22 (hF.ev rfl) (row_at (i := 0) hS rfl (by first | assumption | rfl)) | exact rd_load pl22 (hF.ev rfl) (row_at0 (i := 0) hS rfl (by first | assumption | rfl)) | exact rd_load pl22 (hF.ev rfl) (row_at (i := 1) hS rfl (by first | assumption | rfl)) | exact rd_load pl22 (hF.ev rfl) (row_at0 (i := 1) hS rfl (by first | assumption | rfl)) | exact rd_load pl22 (hF.ev rfl) (row_at (i := 2) hS rfl (by first | assumption | rfl)) | exact rd_load pl22 (hF.ev rfl) (row_at0 (i := 2) hS rfl (by first | assumption | rfl)) | exact rd_load pl22 (hF.ev rfl) (row_at (i := 3) hS rfl (by first | assumption | rfl)) | exact rd_load pl22 (hF.ev rfl) (row_at0 (i := 3) hS rfl (by first | assumption | rfl)) | exact rd_load pl22 (hF.ev rfl) (row_at (i := 4) hS rfl (by first | assumption | rfl)) | exact rd_load pl22 (hF.ev rfl) (row_at0 (i := 4) hS rfl (by first | assumption | rfl)) | exact rd_load pl22 (hF.ev rfl) (row_at (i := 5) hS rfl (by first | assumption | rfl)) | exact rd_load pl22 (hF.ev rfl) (row_at0 (i := 5) hS rfl (by first | assumption | rfl))) ?_; clear hF; intro a hF
          refine s_pu hF rfl rfl rfl (pu_len sl22 (hF.ev rfl)) ?_; clear hF; intro a hF
          refine s_pu hF rfl rfl rfl (pu_lss (hF.ev rfl) (hF.ev rfl)) ?_; clear hF; intro a hF
          refine s_done ?_
          refine hK21 _ _ ?_; clear hK21
          refine wp_cond_split (hF.ev rfl) (fun hc7 => ?_) (fun hc7 => ?_)
          · -- cond 7 true
            try simp only [decide_eq_true_eq, decide_eq_false_iff_not, Bool.not_eq_true', Bool.not_eq_false', Int.not_lt, Int.not_le, ne_eq, Decidable.not_not, Bool.or_eq_true, Bool.or_eq_false_iff, Bool.and_eq_true, Bool.and_eq_false_imp] at hc7
            have hkn : k < n := by omega
            obtain ⟨A2, n2, c2, e, _, hr⟩ := marks_read (hS.front 2 rfl) hv
            injection e with e1 e2 e3
            subst e1
            subst e2
            obtain ⟨g1, rfl, hv2⟩ := hr k hkn
            refine wp_skip ?_
            refine hK20 _ _ ?_; clear hK20
            refine wp_seq_k fun K22 hK22 => ?_
            refine wp_block ?_
            refine wp_seq_k fun K23 hK23 => ?_
            -- region 31
            refine wp_region_lit ?_
            refine s_pu hF rfl rfl rfl (pu_move (hF.ev rfl)) ?_; clear hF; intro a hF
            refine s_pu hF rfl rfl rfl ((by first | exact pu_nil (hF.ev rfl) | exact pu_nilf (hF.ev rfl))) ?_; clear hF; intro a hF
            refine s_pu hF rfl rfl rfl ((by first | exact pu_field fd34_2 (hF.ev rfl) | exact pu_fieldA fd34_2 (hF.ev rfl))) ?_; clear hF; intro a hF
            refine s_rd hF rfl rfl rfl (by first | exact rd_load pl32 (hF.ev rfl) (by assumption) | exact rd_load pl32 (hF.ev rfl) (hS.cellL (i := 0) rfl rfl) | exact rd_load pl32 (hF.ev rfl) (hS.cellL (i := 1) rfl rfl) | exact rd_load pl32 (hF.ev rfl) (hS.cellL (i := 2) rfl rfl) | exact rd_load pl32 (hF.ev rfl) (hS.cellL (i := 3) rfl rfl) | exact rd_load pl32 (hF.ev rfl) (hS.cellL (i := 4) rfl rfl) | exact rd_load pl32 (hF.ev rfl) (hS.cellL (i := 5) rfl rfl) | exact rd_load pl32 (hF.ev rfl) (hS.cell (i := 0) rfl (by assumption)) | exact rd_load pl32 (hF.ev rfl) (hS.cell (i := 1) rfl (by assumption)) | exact rd_load pl32 (hF.ev rfl) (hS.cell (i := 2) rfl (by assumption)) | exact rd_load pl32 (hF.ev rfl) (hS.cell (i := 3) rfl (by assumption)) | exact rd_load pl32 (hF.ev rfl) (hS.cell (i := 4) rfl (by assumption)) | exact rd_load pl32 (hF.ev rfl) (hS.cell (i := 5) rfl (by assumption)) | exact rd_load pl32 (hF.ev rfl) (row_at (i := 0) hS rfl (by first | assumption | rfl)) | exact rd_load pl32 (hF.ev rfl) (row_at0 (i := 0) hS rfl (by first | assumption | rfl)) | exact rd_load pl32 (hF.ev rfl) (row_at (i := 1) hS rfl (by first | assumption | rfl)) | exact rd_load pl32 (hF.ev rfl) (row_at0 (i := 1) hS rfl (by first | assumption | rfl)) | exact rd_load pl32 (hF.ev rfl) (row_at (i := 2) hS rfl (by first | assumption | rfl)) | exact rd_load pl32 (hF.ev rfl) (row_at0 (i := 2) hS rfl (by first | assumption | rfl)) | exact rd_load pl32 (hF.ev rfl) (row_at (i := 3) hS rfl (by first | assumption | rfl)) | exact rd_load pl32 (hF.ev rfl) (row_at0 (i := 3) hS rfl (by first | assumption | rfl)) | exact rd_load pl32 (hF.ev rfl) (row_at (i := 4) hS rfl (by first | assumption | rfl)) | exact rd_load pl32 (hF.ev rfl) (row_at0 (i := 4) hS rfl (by first | assumption | rfl)) | exact rd_load pl32 (hF.ev rfl) (row_at (i := 5) hS rfl (by first | assumption | rfl)) | exact rd_load pl32 (hF.ev rfl) (row_at0 (i := 5) hS rfl (by first | assumption | rfl))) ?_; clear hF; intro a hF
            refine s_pu hF rfl rfl rfl (pu_move (hF.ev rfl)) ?_; clear hF; intro a hF
            refine s_pu hF rfl rfl rfl ((by first | exact pu_elem sl32 (hF.ev rfl) (hF.ev rfl) (by first | omega | simp) (by first | omega | (simp; done) | (simp; omega)) | exact pu_elemA sl32 (hF.ev rfl) (hF.ev rfl) (by omega) (by omega))) ?_; clear hF; intro a hF
            refine s_rd hF rfl rfl rfl (by first | exact rd_load pl22 (hF.ev rfl) (by assumption) | exact rd_load pl22 (hF.ev rfl) (hS.cellL (i := 0) rfl rfl) | exact rd_load pl22 (hF.ev rfl) (hS.cellL (i := 1) rfl rfl) | exact rd_load pl22 (hF.ev rfl) (hS.cellL (i := 2) rfl rfl) | exact rd_load pl22 (hF.ev rfl) (hS.cellL (i := 3) rfl rfl) | exact rd_load pl22 (hF.ev rfl) (hS.cellL (i := 4) rfl rfl) | exact rd_load pl22 (hF.ev rfl) (hS.cellL (i := 5) rfl rfl) | exact rd_load pl22 (hF.ev rfl) (hS.cell (i := 0) rfl (by assumption)) | exact rd_load pl22 (hF.ev rfl) (hS.cell (i := 1) rfl (by assumption)) | exact rd_load pl22 (hF.ev rfl) (hS.cell (i := 2) rfl (by assumption)) | exact rd_load pl22 (hF.ev rfl) (hS.cell (i := 3) rfl (by assumption)) | exact rd_load pl22 (hF.ev rfl) (hS.cell (i := 4) rfl (by assumption)) | exact rd_load pl22 (hF.ev rfl) (hS.cell (i := 5) rfl (by assumption)) | exact rd_load pl22 (hF.ev rfl) (row_at (i := 0) hS rfl (by first | assumption | rfl)) | exact rd_load pl22 (hF.ev rfl) (row_at0 (i := 0) hS rfl (by first | assumption | rfl)) | exact rd_load pl22 (hF.ev rfl) (row_at (i := 1) hS rfl (by first | assumption | rfl)) | exact rd_load pl22 (hF.ev rfl) (row_at0 (i := 1) hS rfl (by first | assumption | rfl)) | exact rd_load pl22 (hF.ev rfl) (row_at (i := 2) hS rfl (by first | assumption | rfl)) | exact rd_load pl22 (hF.ev rfl) (row_at0 (i := 2) hS rfl (by first | assumption | rfl)) | exact rd_load pl22 (hF.ev rfl) (row_at (i := 3) hS rfl (by first | assumption | rfl)) | exact rd_load pl22 (hF.ev rfl) (row_at0 (i := 3) hS rfl (by first | assumption | rfl)) | exact rd_load pl22 (hF.ev rfl) (row_at (i := 4) hS rfl (by first | assumption | rfl)) | exact rd_load pl22 (hF.ev rfl) (row_at0 (i := 4) hS rfl (by first | assumption | rfl)) | exact rd_load pl22 (hF.ev rfl) (row_at (i := 5) hS rfl (by first | assumption | rfl)) | exact rd_load pl22 (hF.ev rfl) (row_at0 (i := 5) hS rfl (by first | assumption | rfl))) ?_; clear hF; intro a hF
            refine s_pu hF rfl rfl rfl (pu_move (hF.ev rfl)) ?_; clear hF; intro a hF
            refine s_pu hF rfl rfl rfl ((by first | exact pu_elem sl22 (hF.ev rfl) (hF.ev rfl) (by first | omega | simp) (by first | omega | (simp; done) | (simp; omega)) | exact pu_elemA sl22 (hF.ev rfl) (hF.ev rfl) (by omega) (by omega))) ?_; clear hF; intro a hF
            refine s_rd hF rfl rfl rfl (by first | exact rd_load pl3 (hF.ev rfl) (by assumption) | exact rd_load pl3 (hF.ev rfl) (hS.cellL (i := 0) rfl rfl) | exact rd_load pl3 (hF.ev rfl) (hS.cellL (i := 1) rfl rfl) | exact rd_load pl3 (hF.ev rfl) (hS.cellL (i := 2) rfl rfl) | exact rd_load pl3 (hF.ev rfl) (hS.cellL (i := 3) rfl rfl) | exact rd_load pl3 (hF.ev rfl) (hS.cellL (i := 4) rfl rfl) | exact rd_load pl3 (hF.ev rfl) (hS.cellL (i := 5) rfl rfl) | exact rd_load pl3 (hF.ev rfl) (hS.cell (i := 0) rfl (by assumption)) | exact rd_load pl3 (hF.ev rfl) (hS.cell (i := 1) rfl (by assumption)) | exact rd_load pl3 (hF.ev rfl) (hS.cell (i := 2) rfl (by assumption)) | exact rd_load pl3 (hF.ev rfl) (hS.cell (i := 3) rfl (by assumption)) | exact rd_load pl3 (hF.ev rfl) (hS.cell (i := 4) rfl (by assumption)) | exact rd_load pl3 (hF.ev rfl) (hS.cell (i := 5) rfl (by assumption)) | exact rd_load pl3 (hF.ev rfl) (row_at (i := 0) hS rfl (by first | assumption | rfl)) | exact rd_load pl3 (hF.ev rfl) (row_at0 (i := 0) hS rfl (by first | assumption | rfl)) | exact rd_load pl3 (hF.ev rfl) (row_at (i := 1) hS rfl (by first | assumption | rfl)) | exact rd_load pl3 (hF.ev rfl) (row_at0 (i := 1) hS rfl (by first | assumption | rfl)) | exact rd_load pl3 (hF.ev rfl) (row_at (i := 2) hS rfl (by first | assumption | rfl)) | exact rd_load pl3 (hF.ev rfl) (row_at0 (i := 2) hS rfl (by first | assumption | rfl)) | exact rd_load pl3 (hF.ev rfl) (row_at (i := 3) hS rfl (by first | assumption | rfl)) | exact rd_load pl3 (hF.ev rfl) (row_at0 (i := 3) hS rfl (by first | assumption | rfl)) | exact rd_load pl3 (hF.ev rfl) (row_at (i := 4) hS rfl (by first | assumption | rfl)) | exact rd_load pl3 (hF.ev rfl) (row_at0 (i := 4) hS rfl (by first | assumption | rfl)) | exact rd_load pl3 (hF.ev rfl) (row_at (i := 5) hS rfl (by first | assumption | rfl)) | exact rd_load pl3 (hF.ev rfl) (row_at0 (i := 5) hS rfl (by first | assumption | rfl))) ?_; clear hF; intro a hF
            refine s_pu hF rfl rfl rfl (pu_move (hF.ev rfl)) ?_; clear hF; intro a hF
            refine s_pu hF rfl rfl rfl (pu_quo64 (hF.ev rfl) (hF.ev rfl) (by omega)) ?_; clear hF; intro a hF
            refine s_pu hF rfl rfl rfl ((by first | exact pu_sub64 (hF.ev rfl) (hF.ev rfl) (by omega) | exact pu_sub (hF.ev rfl) (hF.ev rfl))) ?_; clear hF; intro a hF
            refine s_pu hF rfl rfl rfl (pu_neq (hF.ev rfl) (hF.ev rfl)) ?_; clear hF; intro a hF
            refine s_done ?_
            refine hK23 _ _ ?_; clear hK23
            refine wp_cond_split (hF.ev rfl) (fun hc8 => ?_) (fun hc8 => ?_)
            · -- cond 8 true
              try simp only [decide_eq_true_eq, decide_eq_false_iff_not, Bool.not_eq_true', Bool.not_eq_false', Int.not_lt, Int.not_le, ne_eq, Decidable.not_not, Bool.or_eq_true, Bool.or_eq_false_iff, Bool.and_eq_true, Bool.and_eq_false_imp] at hc8
              unfold mk at hc8
              omega
            · -- cond 8 false
              try simp only [decide_eq_true_eq, decide_eq_false_iff_not, Bool.not_eq_true', Bool.not_eq_false', Int.not_lt, Int.not_le, ne_eq, Decidable.not_not, Bool.or_eq_true, Bool.or_eq_false_iff, Bool.and_eq_true, Bool.and_eq_false_imp] at hc8
              refine wp_skip ?_
              refine blk_normal ?_
              refine hK22 _ _ ?_; clear hK22
              -- region 30
              refine wp_region_lit ?_
              refine s_pu hF rfl rfl rfl (pu_move (hF.ev rfl)) ?_; clear hF; intro a hF
              refine s_pu hF rfl rfl rfl ((by first | exact pu_add64 (hF.ev rfl) (hF.ev rfl) (by omega) | exact pu_add (hF.ev rfl) (hF.ev rfl))) ?_; clear hF; intro a hF
              refine s_pu hF rfl rfl rfl (pu_assign (hF.ev rfl)) ?_; clear hF; intro a hF
              refine s_done ?_
              exact ⟨_, by omega, k + 1, rfl, by omega, hF.sub ⟨rfl, rfl, rfl, trivial⟩, hS⟩
          · -- cond 7 false
            try simp only [decide_eq_true_eq, decide_eq_false_iff_not, Bool.not_eq_true', Bool.not_eq_false', Int.not_lt, Int.not_le, ne_eq, Decidable.not_not, Bool.or_eq_true, Bool.or_eq_false_iff, Bool.and_eq_true, Bool.and_eq_false_imp] at hc7
            refine wp_exit ?_
            refine then_exit ?_
            refine then_exit ?_
            refine blk_exit ?_
            refine blk_normal ?_
            refine hK18 _ _ ?_; clear hK18
            -- region 27
            refine wp_region_lit ?_
            refine s_pu hF rfl rfl rfl (pu_move (hF.ev rfl)) ?_; clear hF; intro a hF
            refine s_pu hF rfl rfl rfl ((by first | exact pu_add64 (hF.ev rfl) (hF.ev rfl) (by omega) | exact pu_add (hF.ev rfl) (hF.ev rfl))) ?_; clear hF; intro a hF
            refine s_pu hF rfl rfl rfl (pu_assign (hF.ev rfl)) ?_; clear hF; intro a hF
            refine s_done ?_
            exact ⟨_, by omega, i + 1, rfl, by omega, hF.sub ⟨rfl, rfl, trivial⟩, hS⟩
        · -- cond 6 false
          try simp only [decide_eq_true_eq, decide_eq_false_iff_not, Bool.not_eq_true', Bool.not_eq_false', Int.not_lt, Int.not_le, ne_eq, Decidable.not_not, Bool.or_eq_true, Bool.or_eq_false_iff, Bool.and_eq_true, Bool.and_eq_false_imp] at hc6
          refine wp_exit ?_
          refine then_exit ?_
          refine then_exit ?_
          refine blk_exit ?_
          refine hK14 _ _ ?_; clear hK14
          refine wp_seq_k fun K18 hK18 => ?_
          -- region 33
          refine wp_region_lit ?_
          refine s_pu hF rfl rfl rfl (pu_assign (hF.ev rfl)) ?_; clear hF; intro a hF
          refine s_done ?_
          refine hK18 _ _ ?_; clear hK18
          refine wp_ret ?_
          refine fin1 Try.results16 hF rfl ?_
          refine ⟨l, by omega, rfl, bk_shut (vf := .slice none 0 0) (vw := .slice none 0 0) (vl := .slice Al l.length cl) ?_⟩
          have h1 := fr_nil (fr_nil (row_nil (E := 22) (sz := 1) (row_nil (E := 22) (sz := 1) hS)))
          have h2 := h1.sel [4, 2, 2, 2, 2]
          exact h2
end
end Go.Proofs.Ytommaijibiipeaa
