import Derived.Test.YtgnepnjicmgkaaaSa9
/-! The queue: All; the law's text. -/
namespace Go.Proofs.Ytgnepnjicmgkaaa
open Go Go.RowKit Go.Proofs.Ytgnepnjicmgkaaa.Sk
set_option linter.unusedVariables false
set_option linter.unusedSimpArgs false
set_option maxRecDepth 100000

def digit (n : Nat) : ByteArray := ByteArray.empty.push (UInt8.ofNat (IntKind.u8.wrap (48 + (n : Int) % 10)).toNat)
def txtG (n : Nat) (s : ByteArray) : ByteArray := if h : n = 0 then s else txtG (n / 10) (digit n ++ s)
termination_by n
decreasing_by omega
def txt (n : Nat) : ByteArray := txtG n ⟨#[]⟩
theorem txtG_step {n : Nat} {s : ByteArray} (h : n ≠ 0) : txtG n s = txtG (n / 10) (digit n ++ s) := by
  rw [txtG, dif_neg h]
theorem txtG_zero {s : ByteArray} : txtG 0 s = s := by
  rw [txtG, dif_pos rfl]
theorem digit_size {n : Nat} : (digit n).size = 1 := rfl
theorem text_c {w0 w : World} {F : List Chunk} {n : Nat} (hS : Sat w0 w F) (hn : n ≤ 1000) : Calls Try.prog 25 #[.int .i64 n] w fun e w' => e = .returned (.string (txt n)) ∧ (txt n).size ≤ 1001 ∧ Sat w0 w' F := by
  refine enter Try.func25 rfl Try.ntmps25 (Nat.le_of_ble_eq_true rfl) fun a hF => ?_
  refine wp_seq_k fun K0 hK0 => ?_
  -- region 0
  refine wp_region_lit ?_
  refine s_pu hF rfl rfl rfl (pu_assign (hF.ev rfl)) ?_; clear hF; intro a hF
  refine s_done ?_
  refine hK0 _ _ ?_; clear hK0
  refine wp_seq_k fun K1 hK1 => ?_
  -- region 1
  refine wp_region_lit ?_
  refine s_pu hF rfl rfl rfl (pu_assign (hF.ev rfl)) ?_; clear hF; intro a hF
  refine s_done ?_
  refine hK1 _ _ ?_; clear hK1
  refine wp_seq_k fun K2 hK2 => ?_
  refine wp_block ?_
  refine wp_ind (fun j a w => ∃ (m : Nat) (s : ByteArray), j = m ∧ m ≤ n ∧ txtG m s = txt n ∧ s.size + m ≤ n ∧ Fr a 17 [(0, .int .i64 m), (3, .string s)] ∧ Sat w0 w F) n
    ⟨n, ⟨#[]⟩, rfl, Nat.le_refl _, rfl, by show 0 + n ≤ n; omega, hF.sub ⟨rfl, rfl, trivial⟩, hS⟩ ?_
  clear hS hF
  rintro j a w ⟨m, s, rfl, hm, ht, hsz, hF, hS⟩
  refine wp_seq_k fun K3 hK3 => ?_
  refine wp_seq_k fun K4 hK4 => ?_
  -- region 2
  refine wp_region_lit ?_
  refine s_pu hF rfl rfl rfl (pu_move (hF.ev rfl)) ?_; clear hF; intro a hF
  refine s_pu hF rfl rfl rfl (pu_gtr (hF.ev rfl) (hF.ev rfl)) ?_; clear hF; intro a hF
  refine s_done ?_
  refine hK4 _ _ ?_; clear hK4
  refine wp_cond_split (hF.ev rfl) (fun hc0 => ?_) (fun hc0 => ?_)
  · -- cond 0 true
    try simp only [decide_eq_true_eq, decide_eq_false_iff_not, Bool.not_eq_true', Bool.not_eq_false', Int.not_lt, Int.not_le, ne_eq, Decidable.not_not, Bool.or_eq_true, Bool.or_eq_false_iff, Bool.and_eq_true, Bool.and_eq_false_imp] at hc0
    have hd := digit_size (n := j)
    unfold digit at hd
    refine wp_skip ?_
    refine hK3 _ _ ?_; clear hK3
    refine wp_block ?_
    refine wp_seq_k fun K5 hK5 => ?_
    -- region 3
    refine wp_region_lit ?_
    refine s_pu hF rfl rfl rfl (pu_move (hF.ev rfl)) ?_; clear hF; intro a hF
    refine s_pu hF rfl rfl rfl (pu_rem64 (hF.ev rfl) (hF.ev rfl) (by omega)) ?_; clear hF; intro a hF
    refine s_pu hF rfl rfl rfl ((by first | exact pu_add64 (hF.ev rfl) (hF.ev rfl) (by omega) | exact pu_add (hF.ev rfl) (hF.ev rfl))) ?_; clear hF; intro a hF
    refine s_pu hF rfl rfl rfl (pu_conv_int it3 it5 (hF.ev rfl)) ?_; clear hF; intro a hF
    refine s_news hF rfl rfl rfl (ef_lit1 (cs := [_]) sl68 ze5 rfl (hF.ev rfl) (by first | rfl | exact cells_one (by assumption)) rfl (by omega) (by omega)) hS ?_; clear hF hS; intro b10 w hS a hF
    refine s_rd hF rfl rfl rfl (by first | exact rd_byte1 by68 Try.underlying9 (hF.ev rfl) (hS.cellL (i := 0) rfl rfl) | exact rd_byte1 by68 Try.underlying9 (hF.ev rfl) (hS.cellL (i := 1) rfl rfl) | exact rd_byte1 by68 Try.underlying9 (hF.ev rfl) (hS.cellL (i := 2) rfl rfl) | exact rd_byte1 by68 Try.underlying9 (hF.ev rfl) (hS.cellL (i := 3) rfl rfl) | exact rd_byte1 by68 Try.underlying9 (hF.ev rfl) (hS.cellL (i := 4) rfl rfl) | exact rd_byte1 by68 Try.underlying9 (hF.ev rfl) (hS.cellL (i := 5) rfl rfl)) ?_; clear hF; intro a hF
    refine s_pu hF rfl rfl rfl (pu_move (hF.ev rfl)) ?_; clear hF; intro a hF
    refine s_pu hF rfl rfl rfl (pu_sadd (hF.ev rfl) (hF.ev rfl) (by omega)) ?_; clear hF; intro a hF
    refine s_pu hF rfl rfl rfl (pu_assign (hF.ev rfl)) ?_; clear hF; intro a hF
    refine s_done ?_
    refine hK5 _ _ ?_; clear hK5
    -- region 4
    refine wp_region_lit ?_
    refine s_pu hF rfl rfl rfl (pu_move (hF.ev rfl)) ?_; clear hF; intro a hF
    refine s_pu hF rfl rfl rfl (pu_quo64 (hF.ev rfl) (hF.ev rfl) (by omega)) ?_; clear hF; intro a hF
    refine s_pu hF rfl rfl rfl (pu_assign (hF.ev rfl)) ?_; clear hF; intro a hF
    refine s_done ?_
    refine blk_normal ?_
    have hdv : (digit j ++ s).size = s.size + 1 := by rw [ByteArray.size_append, digit_size]; omega
    refine ⟨j / 10, by omega, j / 10, digit j ++ s, rfl, by omega, ?_, by omega, ?_, hS.tail⟩
    · rw [← ht]
      exact (txtG_step (by omega)).symm
    · rw [show ((j / 10 : Nat) : Int) = (j : Int) / 10 by omega]
      exact hF.sub ⟨rfl, rfl, trivial⟩
  · -- cond 0 false
    try simp only [decide_eq_true_eq, decide_eq_false_iff_not, Bool.not_eq_true', Bool.not_eq_false', Int.not_lt, Int.not_le, ne_eq, Decidable.not_not, Bool.or_eq_true, Bool.or_eq_false_iff, Bool.and_eq_true, Bool.and_eq_false_imp] at hc0
    refine wp_exit ?_
    refine then_exit ?_
    refine then_exit ?_
    refine blk_exit ?_
    refine hK2 _ _ ?_; clear hK2
    refine wp_seq_k fun K5 hK5 => ?_
    -- region 5
    refine wp_region_lit ?_
    refine s_pu hF rfl rfl rfl (pu_move (hF.ev rfl)) ?_; clear hF; intro a hF
    refine s_pu hF rfl rfl rfl (pu_assign (hF.ev rfl)) ?_; clear hF; intro a hF
    refine s_done ?_
    refine hK5 _ _ ?_; clear hK5
    refine wp_ret ?_
    refine fin1 Try.results25 hF rfl ?_
    have hj : j = 0 := by omega
    subst hj
    rw [txtG_zero] at ht
    rw [← ht]
    exact ⟨rfl, by omega, hS⟩

/-- A list of advices in memory of its own. -/
def listC (k : Nat) (v : Value) (l : List Adv) : Chunk := exC fun hs => pureC (hs.length = l.length) (star (rowC 33 6 v l.length (advCells l hs) :: advsC k hs l))
theorem list_open {k : Nat} {v : Value} {l : List Adv} {w0 w : World} {F : List Chunk} : Sat w0 w (listC k v l :: F) ↔ ∃ hs : List (Value × Value), hs.length = l.length ∧ Sat w0 w (rowC 33 6 v l.length (advCells l hs) :: (advsC k hs l ++ F)) := by
  unfold listC
  simp only [sat_ex, sat_pure, sat_star, List.cons_append]
theorem nth_advs {k : Nat} {F : List Chunk} : ∀ {l : List Adv} {hs : List (Value × Value)} {i : Nat} {a : Adv} {p : Value × Value}, l[i]? = some a → hs[i]? = some p → nth (advsC k hs l ++ F) i = some (advC k p a)
  | [], _, _, _, _, h, _ => by simp at h
  | _ :: _, [], _, _, _, _, h => by simp at h
  | a :: l, p :: hs, 0, _, _, h1, h2 => by simp at h1 h2; subst h1; subst h2; rfl
  | a :: l, p :: hs, i + 1, _, _, h1, h2 => by
    simp only [List.getElem?_cons_succ] at h1 h2
    exact nth_advs (l := l) (hs := hs) h1 h2
theorem copied_at (k i : Nat) {w0 w : World} {C : List Chunk} {ad : Adv} {p : Value × Value} (hS : Sat w0 w C) (hi : nth C i = some (advC k p ad)) :
    Calls Try.prog 28 #[ad.value p] w fun e w' => ∃ p' : Value × Value, e = .returned (ad.value p') ∧ (∃ A n c A' n' c', p' = (.slice A n c, .slice A' n' c')) ∧ Sat w0 w' (advC k p' ad :: C) := by
  have hS' := hS.front i hi
  unfold advC at hS'
  rw [sat_star] at hS'
  obtain ⟨f1, hf1, hS', hg1⟩ := hS'.exact
  obtain ⟨f2, hf2, hS', hg2⟩ := (hS'.front 1 rfl).exact
  have hS' : Sat w0 w (exactC f2 :: exactC f1 :: del C i) := hS'
  have hR1 : RdN w (fun b => f1 b ≠ none ∨ f2 b ≠ none) k p.1 ad.f1 := (nodes_rd hf1 hg1).mono (fun _ h => .inl h)
  have hR2 : RdN w (fun b => f1 b ≠ none ∨ f2 b ≠ none) k p.2 ad.f2 := (nodes_rd hf2 hg2).mono (fun _ h => .inr h)
  have hK : Keeps w0 (exactC f2 :: exactC f1 :: del C i) w (fun b => f1 b ≠ none ∨ f2 b ≠ none) := by
    intro w' h b hb
    rcases hb with hb | hb
    · exact keeps_exact (i := 1) hg1 rfl w' h b hb
    · exact keeps_exact (i := 0) hg2 rfl w' h b hb
  refine (copied_c k hR1 hR2 hK hS').mono ?_
  rintro e w' ⟨p', rfl, hp, h⟩
  refine ⟨p', rfl, hp, ?_⟩
  have h1 := (h.front 1 rfl).unexact hf2
  have h2 := (h1.front 2 rfl).unexact hf1
  have h3 : Sat w0 w' (nodesC 96 k 64 p.1 ad.f1 :: nodesC 96 k 64 p.2 ad.f2 :: advC k p' ad :: del C i) := h2
  have h4 : Sat w0 w' (advC k p ad :: advC k p' ad :: del C i) := sat_star.2 h3
  exact h4.perm ((List.Perm.swap _ _ _).trans ((nth_perm C i _ hi).symm.cons _))
theorem all_list (k : Nat) {w0 w : World} {F : List Chunk} {g : Nat} {Q : Que} (hS : Sat w0 w (queueC k g Q :: F)) (hlen : (Q.l.length + 1) * 96 ≤ 140737488355328) :
    Calls Try.prog 23 #[.pointer (some ⟨g, 0, none⟩)] w fun e w' => ∃ A c, e = .returned (.slice A Q.l.length c) ∧ Sat w0 w' (listC k (.slice A Q.l.length c) Q.l :: queueC k g Q :: F) := by
  obtain ⟨o, d, q, e, hs, hl, hS⟩ := queue_open hS
  refine enter Try.func23 rfl Try.ntmps23 (Nat.le_of_ble_eq_true rfl) fun a hF => ?_
  refine wp_seq_k fun K0 hK0 => ?_
  -- region 0
  refine wp_region_lit ?_
  refine s_pu hF rfl rfl rfl (pu_assign (hF.ev rfl)) ?_; clear hF; intro a hF
  refine s_done ?_
  refine hK0 _ _ ?_; clear hK0
  refine wp_seq_k fun K1 hK1 => ?_
  -- region 1
  refine wp_region_lit ?_
  refine s_pu hF rfl rfl rfl (pu_assign (hF.ev rfl)) ?_; clear hF; intro a hF
  refine s_done ?_
  refine hK1 _ _ ?_; clear hK1
  refine wp_seq_k fun K2 hK2 => ?_
  refine wp_seq_k fun K3 hK3 => ?_
  -- region 2
  refine wp_region_lit ?_
  refine s_pu hF rfl rfl rfl (pu_move (hF.ev rfl)) ?_; clear hF; intro a hF
  refine s_pu hF rfl rfl rfl ((by first | exact pu_nil (hF.ev rfl) | exact pu_nilf (hF.ev rfl))) ?_; clear hF; intro a hF
  refine s_pu hF rfl rfl rfl (pu_field fd66_3 (hF.ev rfl)) ?_; clear hF; intro a hF
  refine s_rd hF rfl rfl rfl (by first | exact rd_load pl41 (hF.ev rfl) (by assumption) | exact rd_load pl41 (hF.ev rfl) (hS.cellL (i := 0) rfl rfl) | exact rd_load pl41 (hF.ev rfl) (hS.cellL (i := 1) rfl rfl) | exact rd_load pl41 (hF.ev rfl) (hS.cellL (i := 2) rfl rfl) | exact rd_load pl41 (hF.ev rfl) (hS.cellL (i := 3) rfl rfl) | exact rd_load pl41 (hF.ev rfl) (hS.cellL (i := 4) rfl rfl) | exact rd_load pl41 (hF.ev rfl) (hS.cellL (i := 5) rfl rfl) | exact rd_load pl41 (hF.ev rfl) (hS.cell (i := 0) rfl (by assumption)) | exact rd_load pl41 (hF.ev rfl) (hS.cell (i := 1) rfl (by assumption)) | exact rd_load pl41 (hF.ev rfl) (hS.cell (i := 2) rfl (by assumption)) | exact rd_load pl41 (hF.ev rfl) (hS.cell (i := 3) rfl (by assumption)) | exact rd_load pl41 (hF.ev rfl) (hS.cell (i := 4) rfl (by assumption)) | exact rd_load pl41 (hF.ev rfl) (hS.cell (i := 5) rfl (by assumption)) | exact rd_load pl41 (hF.ev rfl) (row_at (i := 0) hS rfl (by first | assumption | rfl)) | exact rd_load pl41 (hF.ev rfl) (row_at0 (i := 0) hS rfl (by first | assumption | rfl)) | exact rd_load pl41 (hF.ev rfl) (row_at (i := 1) hS rfl (by first | assumption | rfl)) | exact rd_load pl41 (hF.ev rfl) (row_at0 (i := 1) hS rfl (by first | assumption | rfl)) | exact rd_load pl41 (hF.ev rfl) (row_at (i := 2) hS rfl (by first | assumption | rfl)) | exact rd_load pl41 (hF.ev rfl) (row_at0 (i := 2) hS rfl (by first | assumption | rfl)) | exact rd_load pl41 (hF.ev rfl) (row_at (i := 3) hS rfl (by first | assumption | rfl)) | exact rd_load pl41 (hF.ev rfl) (row_at0 (i := 3) hS rfl (by first | assumption | rfl)) | exact rd_load pl41 (hF.ev rfl) (row_at (i := 4) hS rfl (by first | assumption | rfl)) | exact rd_load pl41 (hF.ev rfl) (row_at0 (i := 4) hS rfl (by first | assumption | rfl)) | exact rd_load pl41 (hF.ev rfl) (row_at (i := 5) hS rfl (by first | assumption | rfl)) | exact rd_load pl41 (hF.ev rfl) (row_at0 (i := 5) hS rfl (by first | assumption | rfl))) ?_; clear hF; intro a hF
  refine s_pu hF rfl rfl rfl (pu_len sl41 (hF.ev rfl)) ?_; clear hF; intro a hF
  refine s_pu hF rfl rfl rfl (pu_move (hF.ev rfl)) ?_; clear hF; intro a hF
  refine s_done ?_
  refine hK3 _ _ ?_; clear hK3
  refine wp_block ?_
  replace hS := row_nil (E := 33) (sz := 6) hS
  refine wp_ind (fun j a w => ∃ (i : Nat) (o' : Option Addr) (d' : Nat) (hs' : List (Value × Value)), j = Q.l.length - i ∧ i ≤ Q.l.length ∧ hs'.length = i ∧
    Fr a 22 [(3, .slice o' i d'), (9, .slice o Q.l.length d), (10, .int .i64 Q.l.length), (11, .int .i64 i)] ∧
    Sat w0 w (rowC 33 6 (.slice o' i d') i (advCells (Q.l.take i) hs') :: .obj g (.cells #[.int .i64 Q.most, .int .i64 Q.retry, .int .i64 Q.tries, .slice o Q.l.length d, .int .i64 Q.sent, .bool Q.under, .int .i64 Q.ticks, .slice q Q.gone.length e, .int .i64 Q.dead] 66 (0, 0)) ::
      rowC 33 6 (.slice o Q.l.length d) Q.l.length (advCells Q.l hs) :: rowC 3 1 (.slice q Q.gone.length e) Q.gone.length (ints Q.gone) :: (advsC k hs Q.l ++ (advsC k hs' (Q.l.take i) ++ F)))) Q.l.length
    ⟨0, none, 0, [], by omega, by omega, rfl, hF.sub ⟨rfl, rfl, rfl, rfl, trivial⟩, hS⟩ ?_
  clear hS hF
  rintro j a w ⟨i, o', d', hs', rfl, hi, hl', hF, hS⟩
  refine wp_seq_k fun K4 hK4 => ?_
  -- region 3
  refine wp_region_lit ?_
  refine s_pu hF rfl rfl rfl (pu_lss (hF.ev rfl) (hF.ev rfl)) ?_; clear hF; intro a hF
  refine s_done ?_
  refine hK4 _ _ ?_; clear hK4
  refine wp_seq_k fun K5 hK5 => ?_
  refine wp_cond_split (hF.ev rfl) (fun hc0 => ?_) (fun hc0 => ?_)
  · -- cond 0 true
    try simp only [decide_eq_true_eq, decide_eq_false_iff_not, Bool.not_eq_true', Bool.not_eq_false', Int.not_lt, Int.not_le, ne_eq, Decidable.not_not, Bool.or_eq_true, Bool.or_eq_false_iff, Bool.and_eq_true, Bool.and_eq_false_imp] at hc0
    have hil : i < Q.l.length := by omega
    obtain ⟨x, hx⟩ : ∃ x, Q.l[i]? = some x := ⟨Q.l[i], List.getElem?_eq_getElem _⟩
    obtain ⟨px, hpx⟩ : ∃ px, hs[i]? = some px := ⟨hs[i]'(by omega), List.getElem?_eq_getElem _⟩
    obtain ⟨gh, rfl⟩ := row_some (i := 2) hS rfl (by omega)
    obtain ⟨B1, n1, B2, n2, rfl⟩ := adv_mem_val (k := k) (a := x) (p := px) hS (by simp only [List.mem_cons, List.mem_append]; exact .inr (.inr (.inr (.inr (.inl (mem_adv hx hpx))))))
    have hcells := row_load (i := 2) hS rfl (by omega) (advCells_at hx hpx)
    refine wp_skip ?_
    refine hK5 _ _ ?_; clear hK5
    refine wp_seq_k fun K6 hK6 => ?_
    refine wp_block ?_
    refine wp_seq_k fun K7 hK7 => ?_
    -- region 4
    refine wp_region_lit ?_
    refine s_pu hF rfl rfl rfl ((by first | exact pu_elem sl41 (hF.ev rfl) (hF.ev rfl) (by first | omega | simp) (by first | omega | (simp; done) | (simp; omega)) | exact pu_elemA sl41 (hF.ev rfl) (hF.ev rfl) (by omega) (by omega))) ?_; clear hF; intro a hF
    refine s_rd hF rfl rfl rfl (rd_loadN ag33 (hF.ev rfl) rfl hcells) ?_; clear hF; intro a hF
    refine s_newp hF rfl rfl rfl (ef_alloc (cs := #[_, _, _, _, _, _]) ze33 rfl) hS ?_; clear hF hS; intro b5 w hS a hF
    (first | (refine s_store (vs := [_, _, _, _, _, _]) (cs' := #[_, _, _, _, _, _]) 0 hF rfl (hF.ev rfl) (hF.ev rfl) hS rfl rfl sz33 (by first | rfl | (simp only [List.all_cons, List.all_nil, Value.oneCell', Bool.and_true, Bool.true_and]; assumption) | (simp [Value.oneCell', *]; done)) (by first | exact Nat.le_of_ble_eq_true rfl | (simp [Value.cells]; omega)) rfl ?_) | (refine s_store (vs := [_, _, _, _, _, _]) (cs' := #[_, _, _, _, _, _]) 1 hF rfl (hF.ev rfl) (hF.ev rfl) hS rfl rfl sz33 (by first | rfl | (simp only [List.all_cons, List.all_nil, Value.oneCell', Bool.and_true, Bool.true_and]; assumption) | (simp [Value.oneCell', *]; done)) (by first | exact Nat.le_of_ble_eq_true rfl | (simp [Value.cells]; omega)) rfl ?_) | (refine s_store (vs := [_, _, _, _, _, _]) (cs' := #[_, _, _, _, _, _]) 2 hF rfl (hF.ev rfl) (hF.ev rfl) hS rfl rfl sz33 (by first | rfl | (simp only [List.all_cons, List.all_nil, Value.oneCell', Bool.and_true, Bool.true_and]; assumption) | (simp [Value.oneCell', *]; done)) (by first | exact Nat.le_of_ble_eq_true rfl | (simp [Value.cells]; omega)) rfl ?_) | (refine s_store (vs := [_, _, _, _, _, _]) (cs' := #[_, _, _, _, _, _]) 3 hF rfl (hF.ev rfl) (hF.ev rfl) hS rfl rfl sz33 (by first | rfl | (simp only [List.all_cons, List.all_nil, Value.oneCell', Bool.and_true, Bool.true_and]; assumption) | (simp [Value.oneCell', *]; done)) (by first | exact Nat.le_of_ble_eq_true rfl | (simp [Value.cells]; omega)) rfl ?_) | (refine s_store (vs := [_, _, _, _, _, _]) (cs' := #[_, _, _, _, _, _]) 4 hF rfl (hF.ev rfl) (hF.ev rfl) hS rfl rfl sz33 (by first | rfl | (simp only [List.all_cons, List.all_nil, Value.oneCell', Bool.and_true, Bool.true_and]; assumption) | (simp [Value.oneCell', *]; done)) (by first | exact Nat.le_of_ble_eq_true rfl | (simp [Value.cells]; omega)) rfl ?_) | (refine s_store (vs := [_, _, _, _, _, _]) (cs' := #[_, _, _, _, _, _]) 5 hF rfl (hF.ev rfl) (hF.ev rfl) hS rfl rfl sz33 (by first | rfl | (simp only [List.all_cons, List.all_nil, Value.oneCell', Bool.and_true, Bool.true_and]; assumption) | (simp [Value.oneCell', *]; done)) (by first | exact Nat.le_of_ble_eq_true rfl | (simp [Value.cells]; omega)) rfl ?_) | (refine s_store (vs := [_, _, _, _, _, _]) (cs' := _) 0 hF rfl (hF.ev rfl) (hF.ev rfl) hS rfl rfl sz33 (by first | rfl | (simp only [List.all_cons, List.all_nil, Value.oneCell', Bool.and_true, Bool.true_and]; assumption) | (simp [Value.oneCell', *]; done)) (by first | exact Nat.le_of_ble_eq_true rfl | (simp [Value.cells]; omega)) rfl ?_) | (refine s_store (vs := [_, _, _, _, _, _]) (cs' := _) 1 hF rfl (hF.ev rfl) (hF.ev rfl) hS rfl rfl sz33 (by first | rfl | (simp only [List.all_cons, List.all_nil, Value.oneCell', Bool.and_true, Bool.true_and]; assumption) | (simp [Value.oneCell', *]; done)) (by first | exact Nat.le_of_ble_eq_true rfl | (simp [Value.cells]; omega)) rfl ?_) | (refine s_store (vs := [_, _, _, _, _, _]) (cs' := _) 2 hF rfl (hF.ev rfl) (hF.ev rfl) hS rfl rfl sz33 (by first | rfl | (simp only [List.all_cons, List.all_nil, Value.oneCell', Bool.and_true, Bool.true_and]; assumption) | (simp [Value.oneCell', *]; done)) (by first | exact Nat.le_of_ble_eq_true rfl | (simp [Value.cells]; omega)) rfl ?_) | (refine s_store (vs := [_, _, _, _, _, _]) (cs' := _) 3 hF rfl (hF.ev rfl) (hF.ev rfl) hS rfl rfl sz33 (by first | rfl | (simp only [List.all_cons, List.all_nil, Value.oneCell', Bool.and_true, Bool.true_and]; assumption) | (simp [Value.oneCell', *]; done)) (by first | exact Nat.le_of_ble_eq_true rfl | (simp [Value.cells]; omega)) rfl ?_) | (refine s_store (vs := [_, _, _, _, _, _]) (cs' := _) 4 hF rfl (hF.ev rfl) (hF.ev rfl) hS rfl rfl sz33 (by first | rfl | (simp only [List.all_cons, List.all_nil, Value.oneCell', Bool.and_true, Bool.true_and]; assumption) | (simp [Value.oneCell', *]; done)) (by first | exact Nat.le_of_ble_eq_true rfl | (simp [Value.cells]; omega)) rfl ?_) | (refine s_store (vs := [_, _, _, _, _, _]) (cs' := _) 5 hF rfl (hF.ev rfl) (hF.ev rfl) hS rfl rfl sz33 (by first | rfl | (simp only [List.all_cons, List.all_nil, Value.oneCell', Bool.and_true, Bool.true_and]; assumption) | (simp [Value.oneCell', *]; done)) (by first | exact Nat.le_of_ble_eq_true rfl | (simp [Value.cells]; omega)) rfl ?_))
    clear hS; intro w hS; (try simp only [upd, del] at hS)
    refine s_done ?_
    refine hK7 _ _ ?_; clear hK7
    -- region 5
    refine wp_region_lit ?_
    refine s_pu hF rfl rfl rfl (pu_move (hF.ev rfl)) ?_; clear hF; intro a hF
    refine s_rd hF rfl rfl rfl (by first | exact rd_loadB (i := 0) (vs := [_, _, _, _, _, _]) ag33 (hF.ev rfl) hS rfl rfl | exact rd_loadB (i := 1) (vs := [_, _, _, _, _, _]) ag33 (hF.ev rfl) hS rfl rfl | exact rd_loadB (i := 2) (vs := [_, _, _, _, _, _]) ag33 (hF.ev rfl) hS rfl rfl | exact rd_loadB (i := 3) (vs := [_, _, _, _, _, _]) ag33 (hF.ev rfl) hS rfl rfl | exact rd_loadB (i := 4) (vs := [_, _, _, _, _, _]) ag33 (hF.ev rfl) hS rfl rfl | exact rd_loadB (i := 5) (vs := [_, _, _, _, _, _]) ag33 (hF.ev rfl) hS rfl rfl) ?_; clear hF; intro a hF
    refine s_en hF rfl rfl rfl (run_fn fk28 (hF.ev rfl) (hF.evs rfl)) (copied_at k (i + 5) (ad := x) (p := (.slice B1 x.f1.length n1, .slice B2 x.f2.length n2)) hS (nth_advs hx hpx)) ?_
    clear hS; rintro e w ⟨p', rfl, ⟨D1, m1, d1, D2, m2, d2, rfl⟩, hS⟩
    refine ⟨_, rfl, ?_⟩; clear hF; intro a hF
    refine s_news hF rfl rfl rfl (ef_lit1 (cs := [_, _, _, _, _, _]) sl41 ze33 rfl (hF.ev rfl) (by first | rfl | exact cells_one (by assumption)) rfl (by omega) (by omega)) hS ?_; clear hF hS; intro b18 w hS a hF
    (first | (refine s_append 0 1 hF rfl rfl sl41 el33 (hF.ev rfl) (hF.ev rfl) hS rfl rfl rfl (by first | rfl | (simp only [List.all_cons, List.all_nil, Value.oneCell', Bool.and_true, Bool.true_and]; assumption) | (simp [Value.oneCell', *]; done)) (by unfold maxLen; omega) (by omega) ?_) | (refine s_append 0 2 hF rfl rfl sl41 el33 (hF.ev rfl) (hF.ev rfl) hS rfl rfl rfl (by first | rfl | (simp only [List.all_cons, List.all_nil, Value.oneCell', Bool.and_true, Bool.true_and]; assumption) | (simp [Value.oneCell', *]; done)) (by unfold maxLen; omega) (by omega) ?_) | (refine s_append 0 3 hF rfl rfl sl41 el33 (hF.ev rfl) (hF.ev rfl) hS rfl rfl rfl (by first | rfl | (simp only [List.all_cons, List.all_nil, Value.oneCell', Bool.and_true, Bool.true_and]; assumption) | (simp [Value.oneCell', *]; done)) (by unfold maxLen; omega) (by omega) ?_) | (refine s_append 0 4 hF rfl rfl sl41 el33 (hF.ev rfl) (hF.ev rfl) hS rfl rfl rfl (by first | rfl | (simp only [List.all_cons, List.all_nil, Value.oneCell', Bool.and_true, Bool.true_and]; assumption) | (simp [Value.oneCell', *]; done)) (by unfold maxLen; omega) (by omega) ?_) | (refine s_append 0 5 hF rfl rfl sl41 el33 (hF.ev rfl) (hF.ev rfl) hS rfl rfl rfl (by first | rfl | (simp only [List.all_cons, List.all_nil, Value.oneCell', Bool.and_true, Bool.true_and]; assumption) | (simp [Value.oneCell', *]; done)) (by unfold maxLen; omega) (by omega) ?_) | (refine s_append 1 0 hF rfl rfl sl41 el33 (hF.ev rfl) (hF.ev rfl) hS rfl rfl rfl (by first | rfl | (simp only [List.all_cons, List.all_nil, Value.oneCell', Bool.and_true, Bool.true_and]; assumption) | (simp [Value.oneCell', *]; done)) (by unfold maxLen; omega) (by omega) ?_) | (refine s_append 1 2 hF rfl rfl sl41 el33 (hF.ev rfl) (hF.ev rfl) hS rfl rfl rfl (by first | rfl | (simp only [List.all_cons, List.all_nil, Value.oneCell', Bool.and_true, Bool.true_and]; assumption) | (simp [Value.oneCell', *]; done)) (by unfold maxLen; omega) (by omega) ?_) | (refine s_append 1 3 hF rfl rfl sl41 el33 (hF.ev rfl) (hF.ev rfl) hS rfl rfl rfl (by first | rfl | (simp only [List.all_cons, List.all_nil, Value.oneCell', Bool.and_true, Bool.true_and]; assumption) | (simp [Value.oneCell', *]; done)) (by unfold maxLen; omega) (by omega) ?_) | (refine s_append 1 4 hF rfl rfl sl41 el33 (hF.ev rfl) (hF.ev rfl) hS rfl rfl rfl (by first | rfl | (simp only [List.all_cons, List.all_nil, Value.oneCell', Bool.and_true, Bool.true_and]; assumption) | (simp [Value.oneCell', *]; done)) (by unfold maxLen; omega) (by omega) ?_) | (refine s_append 1 5 hF rfl rfl sl41 el33 (hF.ev rfl) (hF.ev rfl) hS rfl rfl rfl (by first | rfl | (simp only [List.all_cons, List.all_nil, Value.oneCell', Bool.and_true, Bool.true_and]; assumption) | (simp [Value.oneCell', *]; done)) (by unfold maxLen; omega) (by omega) ?_) | (refine s_append 2 0 hF rfl rfl sl41 el33 (hF.ev rfl) (hF.ev rfl) hS rfl rfl rfl (by first | rfl | (simp only [List.all_cons, List.all_nil, Value.oneCell', Bool.and_true, Bool.true_and]; assumption) | (simp [Value.oneCell', *]; done)) (by unfold maxLen; omega) (by omega) ?_) | (refine s_append 2 1 hF rfl rfl sl41 el33 (hF.ev rfl) (hF.ev rfl) hS rfl rfl rfl (by first | rfl | (simp only [List.all_cons, List.all_nil, Value.oneCell', Bool.and_true, Bool.true_and]; assumption) | (simp [Value.oneCell', *]; done)) (by unfold maxLen; omega) (by omega) ?_) | (refine s_append 2 3 hF rfl rfl sl41 el33 (hF.ev rfl) (hF.ev rfl) hS rfl rfl rfl (by first | rfl | (simp only [List.all_cons, List.all_nil, Value.oneCell', Bool.and_true, Bool.true_and]; assumption) | (simp [Value.oneCell', *]; done)) (by unfold maxLen; omega) (by omega) ?_) | (refine s_append 2 4 hF rfl rfl sl41 el33 (hF.ev rfl) (hF.ev rfl) hS rfl rfl rfl (by first | rfl | (simp only [List.all_cons, List.all_nil, Value.oneCell', Bool.and_true, Bool.true_and]; assumption) | (simp [Value.oneCell', *]; done)) (by unfold maxLen; omega) (by omega) ?_) | (refine s_append 2 5 hF rfl rfl sl41 el33 (hF.ev rfl) (hF.ev rfl) hS rfl rfl rfl (by first | rfl | (simp only [List.all_cons, List.all_nil, Value.oneCell', Bool.and_true, Bool.true_and]; assumption) | (simp [Value.oneCell', *]; done)) (by unfold maxLen; omega) (by omega) ?_) | (refine s_append 3 0 hF rfl rfl sl41 el33 (hF.ev rfl) (hF.ev rfl) hS rfl rfl rfl (by first | rfl | (simp only [List.all_cons, List.all_nil, Value.oneCell', Bool.and_true, Bool.true_and]; assumption) | (simp [Value.oneCell', *]; done)) (by unfold maxLen; omega) (by omega) ?_) | (refine s_append 3 1 hF rfl rfl sl41 el33 (hF.ev rfl) (hF.ev rfl) hS rfl rfl rfl (by first | rfl | (simp only [List.all_cons, List.all_nil, Value.oneCell', Bool.and_true, Bool.true_and]; assumption) | (simp [Value.oneCell', *]; done)) (by unfold maxLen; omega) (by omega) ?_) | (refine s_append 3 2 hF rfl rfl sl41 el33 (hF.ev rfl) (hF.ev rfl) hS rfl rfl rfl (by first | rfl | (simp only [List.all_cons, List.all_nil, Value.oneCell', Bool.and_true, Bool.true_and]; assumption) | (simp [Value.oneCell', *]; done)) (by unfold maxLen; omega) (by omega) ?_) | (refine s_append 3 4 hF rfl rfl sl41 el33 (hF.ev rfl) (hF.ev rfl) hS rfl rfl rfl (by first | rfl | (simp only [List.all_cons, List.all_nil, Value.oneCell', Bool.and_true, Bool.true_and]; assumption) | (simp [Value.oneCell', *]; done)) (by unfold maxLen; omega) (by omega) ?_) | (refine s_append 3 5 hF rfl rfl sl41 el33 (hF.ev rfl) (hF.ev rfl) hS rfl rfl rfl (by first | rfl | (simp only [List.all_cons, List.all_nil, Value.oneCell', Bool.and_true, Bool.true_and]; assumption) | (simp [Value.oneCell', *]; done)) (by unfold maxLen; omega) (by omega) ?_) | (refine s_append 4 0 hF rfl rfl sl41 el33 (hF.ev rfl) (hF.ev rfl) hS rfl rfl rfl (by first | rfl | (simp only [List.all_cons, List.all_nil, Value.oneCell', Bool.and_true, Bool.true_and]; assumption) | (simp [Value.oneCell', *]; done)) (by unfold maxLen; omega) (by omega) ?_) | (refine s_append 4 1 hF rfl rfl sl41 el33 (hF.ev rfl) (hF.ev rfl) hS rfl rfl rfl (by first | rfl | (simp only [List.all_cons, List.all_nil, Value.oneCell', Bool.and_true, Bool.true_and]; assumption) | (simp [Value.oneCell', *]; done)) (by unfold maxLen; omega) (by omega) ?_) | (refine s_append 4 2 hF rfl rfl sl41 el33 (hF.ev rfl) (hF.ev rfl) hS rfl rfl rfl (by first | rfl | (simp only [List.all_cons, List.all_nil, Value.oneCell', Bool.and_true, Bool.true_and]; assumption) | (simp [Value.oneCell', *]; done)) (by unfold maxLen; omega) (by omega) ?_) | (refine s_append 4 3 hF rfl rfl sl41 el33 (hF.ev rfl) (hF.ev rfl) hS rfl rfl rfl (by first | rfl | (simp only [List.all_cons, List.all_nil, Value.oneCell', Bool.and_true, Bool.true_and]; assumption) | (simp [Value.oneCell', *]; done)) (by unfold maxLen; omega) (by omega) ?_) | (refine s_append 4 5 hF rfl rfl sl41 el33 (hF.ev rfl) (hF.ev rfl) hS rfl rfl rfl (by first | rfl | (simp only [List.all_cons, List.all_nil, Value.oneCell', Bool.and_true, Bool.true_and]; assumption) | (simp [Value.oneCell', *]; done)) (by unfold maxLen; omega) (by omega) ?_) | (refine s_append 5 0 hF rfl rfl sl41 el33 (hF.ev rfl) (hF.ev rfl) hS rfl rfl rfl (by first | rfl | (simp only [List.all_cons, List.all_nil, Value.oneCell', Bool.and_true, Bool.true_and]; assumption) | (simp [Value.oneCell', *]; done)) (by unfold maxLen; omega) (by omega) ?_) | (refine s_append 5 1 hF rfl rfl sl41 el33 (hF.ev rfl) (hF.ev rfl) hS rfl rfl rfl (by first | rfl | (simp only [List.all_cons, List.all_nil, Value.oneCell', Bool.and_true, Bool.true_and]; assumption) | (simp [Value.oneCell', *]; done)) (by unfold maxLen; omega) (by omega) ?_) | (refine s_append 5 2 hF rfl rfl sl41 el33 (hF.ev rfl) (hF.ev rfl) hS rfl rfl rfl (by first | rfl | (simp only [List.all_cons, List.all_nil, Value.oneCell', Bool.and_true, Bool.true_and]; assumption) | (simp [Value.oneCell', *]; done)) (by unfold maxLen; omega) (by omega) ?_) | (refine s_append 5 3 hF rfl rfl sl41 el33 (hF.ev rfl) (hF.ev rfl) hS rfl rfl rfl (by first | rfl | (simp only [List.all_cons, List.all_nil, Value.oneCell', Bool.and_true, Bool.true_and]; assumption) | (simp [Value.oneCell', *]; done)) (by unfold maxLen; omega) (by omega) ?_) | (refine s_append 5 4 hF rfl rfl sl41 el33 (hF.ev rfl) (hF.ev rfl) hS rfl rfl rfl (by first | rfl | (simp only [List.all_cons, List.all_nil, Value.oneCell', Bool.and_true, Bool.true_and]; assumption) | (simp [Value.oneCell', *]; done)) (by unfold maxLen; omega) (by omega) ?_)); (clear hS hF; intro A19 q19 w hS a hF; (try simp only [upd, del] at hS))
    refine s_pu hF rfl rfl rfl (pu_assign (hF.ev rfl)) ?_; clear hF; intro a hF
    refine s_done ?_
    refine blk_normal ?_
    refine hK6 _ _ ?_; clear hK6
    -- region 6
    refine wp_region_lit ?_
    refine s_pu hF rfl rfl rfl ((by first | exact pu_add64 (hF.ev rfl) (hF.ev rfl) (by omega) | exact pu_add (hF.ev rfl) (hF.ev rfl))) ?_; clear hF; intro a hF
    refine s_pu hF rfl rfl rfl (pu_move (hF.ev rfl)) ?_; clear hF; intro a hF
    refine s_done ?_
    have e1 : Q.l.take (i + 1) = Q.l.take i ++ [x] := by rw [List.take_add_one, hx]; rfl
    have hl2 : hs'.length = (Q.l.take i).length := by simp; omega
    refine ⟨_, by omega, i + 1, A19, q19, hs' ++ [(.slice D1 m1 d1, .slice D2 m2 d2)], rfl, by omega, by simp [hl'], hF.sub ⟨rfl, rfl, rfl, rfl, trivial⟩, ?_⟩
    rw [e1, advCells_snoc _ _ hl2, advsC_snoc hl2, List.append_assoc]
    replace hS := ((hS.drop 1).drop 2).sel [0, 1, 1, 1]
    have hS : Sat w0 w (_ :: _ :: _ :: _ :: advC k (.slice D1 m1 d1, .slice D2 m2 d2) x :: (advsC k hs Q.l ++ (advsC k hs' (Q.l.take i) ++ F))) := hS
    refine hS.perm ((((List.Perm.cons _ ?_).cons _).cons _).cons _)
    refine (List.perm_middle (l₁ := advsC k hs Q.l)).symm.trans (List.Perm.append_left _ ?_)
    exact (List.perm_middle (l₁ := advsC k hs' (Q.l.take i))).symm
  · -- cond 0 false
    try simp only [decide_eq_true_eq, decide_eq_false_iff_not, Bool.not_eq_true', Bool.not_eq_false', Int.not_lt, Int.not_le, ne_eq, Decidable.not_not, Bool.or_eq_true, Bool.or_eq_false_iff, Bool.and_eq_true, Bool.and_eq_false_imp] at hc0
    refine wp_exit ?_
    refine then_exit ?_
    refine then_exit ?_
    refine blk_exit ?_
    refine hK2 _ _ ?_; clear hK2
    refine wp_seq_k fun K6 hK6 => ?_
    -- region 7
    refine wp_region_lit ?_
    refine s_pu hF rfl rfl rfl (pu_move (hF.ev rfl)) ?_; clear hF; intro a hF
    refine s_pu hF rfl rfl rfl (pu_assign (hF.ev rfl)) ?_; clear hF; intro a hF
    refine s_done ?_
    refine hK6 _ _ ?_; clear hK6
    refine wp_ret ?_
    refine fin1 Try.results23 hF rfl ?_
    have hil : i = Q.l.length := by omega
    subst hil
    rw [List.take_length] at hS
    refine ⟨_, _, rfl, list_open.2 ⟨hs', hl', ?_⟩⟩
    have h1 := (hS.front 1 rfl).sel [0, 1, 1]
    have h2 : Sat w0 w (.obj g _ :: _ :: _ :: rowC 33 6 (.slice o' Q.l.length d') Q.l.length (advCells Q.l hs') :: (advsC k hs Q.l ++ (advsC k hs' Q.l ++ F))) := h1
    have h3 := queue_open0.2 ⟨_, _, hs, hl, h2.perm ((((List.perm_middle (l₁ := advsC k hs Q.l)).symm.cons _).cons _).cons _)⟩
    have h4 : Sat w0 w (queueC k g Q :: rowC 33 6 (.slice o' Q.l.length d') Q.l.length (advCells Q.l hs') :: (advsC k hs' Q.l ++ F)) := h3
    exact (h4.front 1 rfl).perm ((List.perm_middle (l₁ := advsC k hs' Q.l)).symm.cons _)
end Go.Proofs.Ytgnepnjicmgkaaa
