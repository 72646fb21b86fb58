import Derived.Test.YtgnepnjicmgkaaaSa6
/-! The law's own: one, pick, examples. -/
namespace Go.Proofs.Ytgnepnjicmgkaaa
open Go Go.RowKit Go.Proofs.Ytgnepnjicmgkaaa.Sk
set_option linter.unusedVariables false
set_option linter.unusedSimpArgs false
set_option maxRecDepth 100000

theorem put_own (k : Nat) {w0 w : World} {F : List Chunk} {g : Nat} {Q : Que} {ad : Adv} {p : Value × Value} (hS : Sat w0 w (advC k p ad :: queueC k g Q :: F)) (hmost : Q.most ≤ 10000) :
    Calls Try.prog 9 #[.pointer (some ⟨g, 0, none⟩), ad.value p] w fun e w' => e = .returned (.int .i64 (Q.put ad).2) ∧ Sat w0 w' (queueC k g (Q.put ad).1 :: F) := by
  unfold advC at hS
  rw [sat_star] at hS
  obtain ⟨f1, hf1, hS, hg1⟩ := hS.exact
  obtain ⟨f2, hf2, hS, hg2⟩ := (hS.front 1 rfl).exact
  have hS : Sat w0 w (exactC f2 :: exactC f1 :: queueC k g Q :: F) := hS
  have hR1 : RdN w (fun b => f1 b ≠ none ∨ f2 b ≠ none) k p.1 ad.f1 := (nodes_rd hf1 hg1).mono (fun _ h => .inl h)
  have hR2 : RdN w (fun b => f1 b ≠ none ∨ f2 b ≠ none) k p.2 ad.f2 := (nodes_rd hf2 hg2).mono (fun _ h => .inr h)
  have hK : Keeps w0 (exactC f2 :: exactC f1 :: F) w (fun b => f1 b ≠ none ∨ f2 b ≠ none) := by
    intro w' h b hb
    rcases hb with hb | hb
    · exact keeps_exact (i := 1) hg1 rfl w' h b hb
    · exact keeps_exact (i := 0) hg2 rfl w' h b hb
  refine (put_c k hR1 hR2 hK (hS.front 2 rfl) hmost).mono ?_
  rintro e w' ⟨rfl, h⟩
  exact ⟨rfl, (h.drop 1).drop 1⟩

theorem pick_c {w0 w : World} {F : List Chunk} {c n : Int} (hS : Sat w0 w F) (hn : 1 ≤ n) (hc0 : -9223372036854775808 ≤ c) (hc1 : c ≤ 9223372036854775807) :
    Calls Try.prog 7 #[.int .i64 c, .int .i64 n] w fun e w' => ∃ p : Nat, p = ((if c < 0 then -(c + 1) else c) % n).toNat ∧ (p : Int) < n ∧ e = .returned (.int .i64 p) ∧ Sat w0 w' F := by
  have key : ∀ x : Int, 0 ≤ x → x.tmod n = ((x % n).toNat : Int) ∧ ((x % n).toNat : Int) < n := fun x hx => by
    have h1 := Int.emod_nonneg x (show n ≠ 0 by omega)
    have h2 := Int.emod_lt_of_pos x (show 0 < n by omega)
    rw [Int.tmod_eq_emod_of_nonneg hx]
    omega
  refine enter Try.func7 rfl Try.ntmps7 (Nat.le_of_ble_eq_true rfl) fun a hF => ?_
  refine wp_seq_k fun K0 hK0 => ?_
  -- region 0
  refine wp_region_lit ?_
  refine s_pu hF rfl rfl rfl (pu_assign (hF.ev rfl)) ?_; clear hF; intro a hF
  refine s_done ?_
  refine hK0 _ _ ?_; clear hK0
  refine wp_seq_k fun K1 hK1 => ?_
  refine wp_seq_k fun K2 hK2 => ?_
  -- region 1
  refine wp_region_lit ?_
  refine s_pu hF rfl rfl rfl (pu_move (hF.ev rfl)) ?_; clear hF; intro a hF
  refine s_pu hF rfl rfl rfl (pu_lss (hF.ev rfl) (hF.ev rfl)) ?_; clear hF; intro a hF
  refine s_done ?_
  refine hK2 _ _ ?_; clear hK2
  refine wp_cond_split (hF.ev rfl) (fun hc0 => ?_) (fun hc0 => ?_)
  · -- cond 0 true
    try simp only [decide_eq_true_eq, decide_eq_false_iff_not, Bool.not_eq_true', Bool.not_eq_false', Int.not_lt, Int.not_le, ne_eq, Decidable.not_not, Bool.or_eq_true, Bool.or_eq_false_iff, Bool.and_eq_true, Bool.and_eq_false_imp] at hc0
    -- region 2
    refine wp_region_lit ?_
    refine s_pu hF rfl rfl rfl (pu_move (hF.ev rfl)) ?_; clear hF; intro a hF
    refine s_pu hF rfl rfl rfl ((by first | exact pu_add64 (hF.ev rfl) (hF.ev rfl) (by omega) | exact pu_add (hF.ev rfl) (hF.ev rfl))) ?_; clear hF; intro a hF
    refine s_pu hF rfl rfl rfl (pu_neg (hF.ev rfl) (by omega)) ?_; clear hF; intro a hF
    refine s_pu hF rfl rfl rfl (pu_assign (hF.ev rfl)) ?_; clear hF; intro a hF
    refine s_done ?_
    refine hK1 _ _ ?_; clear hK1
    refine wp_seq_k fun K3 hK3 => ?_
    -- region 3
    refine wp_region_lit ?_
    refine s_pu hF rfl rfl rfl (pu_move (hF.ev rfl)) ?_; clear hF; intro a hF
    refine s_pu hF rfl rfl rfl (pu_move (hF.ev rfl)) ?_; clear hF; intro a hF
    refine s_pu hF rfl rfl rfl (pu_rem64 (hF.ev rfl) (hF.ev rfl) (by omega)) ?_; clear hF; intro a hF
    refine s_pu hF rfl rfl rfl (pu_assign (hF.ev rfl)) ?_; clear hF; intro a hF
    refine s_done ?_
    refine hK3 _ _ ?_; clear hK3
    refine wp_ret ?_
    refine fin1 Try.results7 hF rfl ?_
    have h0 : 0 ≤ -(c + 1) := by omega
    obtain ⟨h1, h2⟩ := key _ h0
    exact ⟨_, by rw [if_pos (by omega)], h2, by rw [← h1, Int.tmod_eq_emod_of_nonneg h0], hS⟩
  · -- cond 0 false
    try simp only [decide_eq_true_eq, decide_eq_false_iff_not, Bool.not_eq_true', Bool.not_eq_false', Int.not_lt, Int.not_le, ne_eq, Decidable.not_not, Bool.or_eq_true, Bool.or_eq_false_iff, Bool.and_eq_true, Bool.and_eq_false_imp] at hc0
    refine wp_skip ?_
    refine hK1 _ _ ?_; clear hK1
    refine wp_seq_k fun K3 hK3 => ?_
    -- region 3
    refine wp_region_lit ?_
    refine s_pu hF rfl rfl rfl (pu_move (hF.ev rfl)) ?_; clear hF; intro a hF
    refine s_pu hF rfl rfl rfl (pu_move (hF.ev rfl)) ?_; clear hF; intro a hF
    refine s_pu hF rfl rfl rfl (pu_rem64 (hF.ev rfl) (hF.ev rfl) (by omega)) ?_; clear hF; intro a hF
    refine s_pu hF rfl rfl rfl (pu_assign (hF.ev rfl)) ?_; clear hF; intro a hF
    refine s_done ?_
    refine hK3 _ _ ?_; clear hK3
    refine wp_ret ?_
    refine fin1 Try.results7 hF rfl ?_
    have h0 : 0 ≤ c := by omega
    obtain ⟨h1, h2⟩ := key _ h0
    exact ⟨_, by rw [if_neg (by omega)], h2, by rw [← h1, Int.tmod_eq_emod_of_nonneg h0], hS⟩

def oneS (n : Int) : ByteArray := ByteArray.empty.push (UInt8.ofNat (IntKind.u8.wrap (48 + n % 10)).toNat)
def oneA (n : Int) : Adv := ⟨0, n, ⟨#[48, 49, 50, 48]⟩, [.node 11 (oneS n) []], ⟨#[48, 49, 50, 49]⟩, [.node 11 (oneS n) []]⟩
theorem fields_one {w0 w : World} {C : List Chunk} {g : Nat} {n : Int} {s : ByteArray} (hS : Sat w0 w (.obj g (.cells #[.int .i64 n, .string s, .slice none 0 0] 64 (0, 0)) :: C)) : Sat w0 w (nodesC 96 1 64 (.slice (some ⟨g, 0, none⟩) 1 1) [.node n s []] :: C) := by
  refine nodes_open.2 ⟨[.slice none 0 0], ⟨rfl, by simp⟩, ?_⟩
  have h1 := row_shut (n := 1) (cap := 1) (sz := 3) hS (by omega) (by unfold maxLen; omega) rfl rfl
  exact (nodes_none.2 h1).sel [1]
theorem one_c {w0 w : World} {C : List Chunk} {n : Int} (hS : Sat w0 w C) (h0 : 0 ≤ n) (h1 : n ≤ 1000) :
    Calls Try.prog 10 #[.int .i64 n] w fun e w' => ∃ p, e = .returned ((oneA n).value p) ∧ (∃ A n c A' n' c', p = (.slice A n c, .slice A' n' c')) ∧ Sat w0 w' (advC 1 p (oneA n) :: C) := by
  refine enter Try.func10 rfl Try.ntmps10 (Nat.le_of_ble_eq_true rfl) fun a hF => ?_
  refine wp_seq_k fun K0 hK0 => ?_
  -- region 0
  refine wp_region_lit ?_
  refine s_newp hF rfl rfl rfl (ef_alloc (cs := #[_, _, _, _, _, _]) ze33 rfl) hS ?_; clear hF hS; intro b2 w hS a hF
  refine s_done ?_
  refine hK0 _ _ ?_; clear hK0
  refine wp_seq_k fun K1 hK1 => ?_
  -- region 1
  refine wp_region_lit ?_
  refine s_pu hF rfl rfl rfl (pu_move (hF.ev rfl)) ?_; clear hF; intro a hF
  refine s_pu hF rfl rfl rfl (pu_rem64 (hF.ev rfl) (hF.ev rfl) (by omega)) ?_; clear hF; intro a hF
  refine s_pu hF rfl rfl rfl ((by first | exact pu_add64 (hF.ev rfl) (hF.ev rfl) (by omega) | exact pu_add (hF.ev rfl) (hF.ev rfl))) ?_; clear hF; intro a hF
  refine s_pu hF rfl rfl rfl (pu_conv_int it3 it5 (hF.ev rfl)) ?_; clear hF; intro a hF
  refine s_news hF rfl rfl rfl (ef_lit1 (cs := [_]) sl68 ze5 rfl (hF.ev rfl) (by first | rfl | exact cells_one (by assumption)) rfl (by omega) (by omega)) hS ?_; clear hF hS; intro b8 w hS a hF
  refine s_rd hF rfl rfl rfl (by first | exact rd_byte1 by68 Try.underlying9 (hF.ev rfl) (hS.cellL (i := 0) rfl rfl) | exact rd_byte1 by68 Try.underlying9 (hF.ev rfl) (hS.cellL (i := 1) rfl rfl) | exact rd_byte1 by68 Try.underlying9 (hF.ev rfl) (hS.cellL (i := 2) rfl rfl) | exact rd_byte1 by68 Try.underlying9 (hF.ev rfl) (hS.cellL (i := 3) rfl rfl) | exact rd_byte1 by68 Try.underlying9 (hF.ev rfl) (hS.cellL (i := 4) rfl rfl) | exact rd_byte1 by68 Try.underlying9 (hF.ev rfl) (hS.cellL (i := 5) rfl rfl)) ?_; clear hF; intro a hF
  refine s_pu hF rfl rfl rfl (pu_assign (hF.ev rfl)) ?_; clear hF; intro a hF
  refine s_done ?_
  refine hK1 _ _ ?_; clear hK1
  refine wp_seq_k fun K2 hK2 => ?_
  -- region 2
  refine wp_region_lit ?_
  refine s_pu hF rfl rfl rfl (pu_move (hF.ev rfl)) ?_; clear hF; intro a hF
  refine s_pu hF rfl rfl rfl (pu_move (hF.ev rfl)) ?_; clear hF; intro a hF
  refine s_pu hF rfl rfl rfl ((pu_build st64 (hF.evp rfl) rfl rfl : Pu _ _ _ (.agg #[_, _, _]))) ?_; clear hF; intro a hF
  refine s_news hF rfl rfl rfl (ef_lit1 (cs := [_, _, _]) sl29 ze64 rfl (hF.ev rfl) (by first | rfl | exact cells_one (by assumption)) rfl (by omega) (by omega)) hS ?_; clear hF hS; intro b13 w hS a hF
  refine s_pu hF rfl rfl rfl ((pu_build st31 (hF.evp rfl) rfl rfl : Pu _ _ _ (.agg #[_, _]))) ?_; clear hF; intro a hF
  refine s_pu hF rfl rfl rfl (pu_move (hF.ev rfl)) ?_; clear hF; intro a hF
  refine s_pu hF rfl rfl rfl ((pu_build st64 (hF.evp rfl) rfl rfl : Pu _ _ _ (.agg #[_, _, _]))) ?_; clear hF; intro a hF
  refine s_news hF rfl rfl rfl (ef_lit1 (cs := [_, _, _]) sl29 ze64 rfl (hF.ev rfl) (by first | rfl | exact cells_one (by assumption)) rfl (by omega) (by omega)) hS ?_; clear hF hS; intro b17 w hS a hF
  refine s_pu hF rfl rfl rfl ((pu_build st31 (hF.evp rfl) rfl rfl : Pu _ _ _ (.agg #[_, _]))) ?_; clear hF; intro a hF
  refine s_pu hF rfl rfl rfl ((pu_build st33 (hF.evp rfl) rfl rfl : Pu _ _ _ (.agg #[_, _, _, _, _, _]))) ?_; clear hF; intro a hF
  (first | (refine s_store (vs := [_, _, _, _, _, _]) (cs' := #[_, _, _, _, _, _]) 0 hF rfl (hF.ev rfl) (hF.ev rfl) hS rfl rfl sz33 (by first | rfl | (simp only [List.all_cons, List.all_nil, Value.oneCell', Bool.and_true, Bool.true_and]; assumption) | (simp [Value.oneCell', *]; done)) (by first | exact Nat.le_of_ble_eq_true rfl | (simp [Value.cells]; omega)) rfl ?_) | (refine s_store (vs := [_, _, _, _, _, _]) (cs' := #[_, _, _, _, _, _]) 1 hF rfl (hF.ev rfl) (hF.ev rfl) hS rfl rfl sz33 (by first | rfl | (simp only [List.all_cons, List.all_nil, Value.oneCell', Bool.and_true, Bool.true_and]; assumption) | (simp [Value.oneCell', *]; done)) (by first | exact Nat.le_of_ble_eq_true rfl | (simp [Value.cells]; omega)) rfl ?_) | (refine s_store (vs := [_, _, _, _, _, _]) (cs' := #[_, _, _, _, _, _]) 2 hF rfl (hF.ev rfl) (hF.ev rfl) hS rfl rfl sz33 (by first | rfl | (simp only [List.all_cons, List.all_nil, Value.oneCell', Bool.and_true, Bool.true_and]; assumption) | (simp [Value.oneCell', *]; done)) (by first | exact Nat.le_of_ble_eq_true rfl | (simp [Value.cells]; omega)) rfl ?_) | (refine s_store (vs := [_, _, _, _, _, _]) (cs' := #[_, _, _, _, _, _]) 3 hF rfl (hF.ev rfl) (hF.ev rfl) hS rfl rfl sz33 (by first | rfl | (simp only [List.all_cons, List.all_nil, Value.oneCell', Bool.and_true, Bool.true_and]; assumption) | (simp [Value.oneCell', *]; done)) (by first | exact Nat.le_of_ble_eq_true rfl | (simp [Value.cells]; omega)) rfl ?_) | (refine s_store (vs := [_, _, _, _, _, _]) (cs' := #[_, _, _, _, _, _]) 4 hF rfl (hF.ev rfl) (hF.ev rfl) hS rfl rfl sz33 (by first | rfl | (simp only [List.all_cons, List.all_nil, Value.oneCell', Bool.and_true, Bool.true_and]; assumption) | (simp [Value.oneCell', *]; done)) (by first | exact Nat.le_of_ble_eq_true rfl | (simp [Value.cells]; omega)) rfl ?_) | (refine s_store (vs := [_, _, _, _, _, _]) (cs' := #[_, _, _, _, _, _]) 5 hF rfl (hF.ev rfl) (hF.ev rfl) hS rfl rfl sz33 (by first | rfl | (simp only [List.all_cons, List.all_nil, Value.oneCell', Bool.and_true, Bool.true_and]; assumption) | (simp [Value.oneCell', *]; done)) (by first | exact Nat.le_of_ble_eq_true rfl | (simp [Value.cells]; omega)) rfl ?_) | (refine s_store (vs := [_, _, _, _, _, _]) (cs' := _) 0 hF rfl (hF.ev rfl) (hF.ev rfl) hS rfl rfl sz33 (by first | rfl | (simp only [List.all_cons, List.all_nil, Value.oneCell', Bool.and_true, Bool.true_and]; assumption) | (simp [Value.oneCell', *]; done)) (by first | exact Nat.le_of_ble_eq_true rfl | (simp [Value.cells]; omega)) rfl ?_) | (refine s_store (vs := [_, _, _, _, _, _]) (cs' := _) 1 hF rfl (hF.ev rfl) (hF.ev rfl) hS rfl rfl sz33 (by first | rfl | (simp only [List.all_cons, List.all_nil, Value.oneCell', Bool.and_true, Bool.true_and]; assumption) | (simp [Value.oneCell', *]; done)) (by first | exact Nat.le_of_ble_eq_true rfl | (simp [Value.cells]; omega)) rfl ?_) | (refine s_store (vs := [_, _, _, _, _, _]) (cs' := _) 2 hF rfl (hF.ev rfl) (hF.ev rfl) hS rfl rfl sz33 (by first | rfl | (simp only [List.all_cons, List.all_nil, Value.oneCell', Bool.and_true, Bool.true_and]; assumption) | (simp [Value.oneCell', *]; done)) (by first | exact Nat.le_of_ble_eq_true rfl | (simp [Value.cells]; omega)) rfl ?_) | (refine s_store (vs := [_, _, _, _, _, _]) (cs' := _) 3 hF rfl (hF.ev rfl) (hF.ev rfl) hS rfl rfl sz33 (by first | rfl | (simp only [List.all_cons, List.all_nil, Value.oneCell', Bool.and_true, Bool.true_and]; assumption) | (simp [Value.oneCell', *]; done)) (by first | exact Nat.le_of_ble_eq_true rfl | (simp [Value.cells]; omega)) rfl ?_) | (refine s_store (vs := [_, _, _, _, _, _]) (cs' := _) 4 hF rfl (hF.ev rfl) (hF.ev rfl) hS rfl rfl sz33 (by first | rfl | (simp only [List.all_cons, List.all_nil, Value.oneCell', Bool.and_true, Bool.true_and]; assumption) | (simp [Value.oneCell', *]; done)) (by first | exact Nat.le_of_ble_eq_true rfl | (simp [Value.cells]; omega)) rfl ?_) | (refine s_store (vs := [_, _, _, _, _, _]) (cs' := _) 5 hF rfl (hF.ev rfl) (hF.ev rfl) hS rfl rfl sz33 (by first | rfl | (simp only [List.all_cons, List.all_nil, Value.oneCell', Bool.and_true, Bool.true_and]; assumption) | (simp [Value.oneCell', *]; done)) (by first | exact Nat.le_of_ble_eq_true rfl | (simp [Value.cells]; omega)) rfl ?_))
  clear hS; intro w hS; (try simp only [upd, del] at hS)
  refine s_done ?_
  refine hK2 _ _ ?_; clear hK2
  refine wp_ret ?_
  refine finc1 Try.results10 hF rfl (by first | exact holds_block (i := 0) ag33 hS rfl rfl | exact holds_block (i := 1) ag33 hS rfl rfl | exact holds_block (i := 2) ag33 hS rfl rfl | exact holds_block (i := 3) ag33 hS rfl rfl | exact holds_block (i := 4) ag33 hS rfl rfl | exact holds_block (i := 5) ag33 hS rfl rfl) ?_
  refine ⟨(.slice (some ⟨b13, 0, none⟩) 1 1, .slice (some ⟨b17, 0, none⟩) 1 1), rfl, ⟨_, _, _, _, _, _, rfl⟩, ?_⟩
  unfold advC
  rw [sat_star]
  have h2 := fields_one hS
  have h3 := fields_one (h2.front 1 rfl)
  exact (h3.drop 3).drop 2
end Go.Proofs.Ytgnepnjicmgkaaa
