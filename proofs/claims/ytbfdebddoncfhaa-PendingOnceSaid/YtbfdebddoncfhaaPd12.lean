import Derived.Test.YtbfdebddoncfhaaPd11
/-! The law's texts: request, its; Add of what is one's own. -/
namespace Go.Proofs.Ytbfdebddoncfhaa
open Go Go.RowKit Go.Proofs.Ytbfdebddoncfhaa.Sk
set_option linter.unusedVariables false
set_option linter.unusedSimpArgs false
set_option maxRecDepth 100000

def digit (n : Nat) : ByteArray := ByteArray.empty.push (UInt8.ofNat (IntKind.u8.wrap (48 + (n : Int) % 10)).toNat)
def txtG (n : Nat) (s : ByteArray) : ByteArray := if h : n = 0 then s else txtG (n / 10) (digit n ++ s)
termination_by n
decreasing_by omega
def txt (n : Nat) : ByteArray := txtG n ⟨#[]⟩
theorem txtG_step {n : Nat} {s : ByteArray} (h : n ≠ 0) : txtG n s = txtG (n / 10) (digit n ++ s) := by
  rw [txtG, dif_neg h]
theorem txtG_zero {s : ByteArray} : txtG 0 s = s := by
  rw [txtG, dif_pos rfl]
theorem digit_size {n : Nat} : (digit n).size = 1 := rfl
def digs (n : Nat) : List UInt8 := if h : n = 0 then [] else digs (n / 10) ++ [UInt8.ofNat (48 + n % 10)]
termination_by n
decreasing_by omega
theorem digs_step {n : Nat} (h : n ≠ 0) : digs n = digs (n / 10) ++ [UInt8.ofNat (48 + n % 10)] := by rw [digs, dif_neg h]
theorem digs_zero : digs 0 = [] := by rw [digs, dif_pos rfl]
theorem digit_list {n : Nat} : (digit n).data.toList = [UInt8.ofNat (48 + n % 10)] := by
  have : (IntKind.u8.wrap (48 + (n : Int) % 10)).toNat = 48 + n % 10 := by
    have e : (48 + (n : Int) % 10) = ((48 + n % 10 : Nat) : Int) := by omega
    rw [e]
    have h : ((48 + n % 10 : Nat) : Int) = (48 + n % 10 : Nat) := rfl
    unfold IntKind.wrap
    simp [IntKind.bits, IntKind.signed]
    omega
  unfold digit
  rw [this]
  simp
theorem txtG_list : ∀ (n : Nat) (s : ByteArray), (txtG n s).data.toList = digs n ++ s.data.toList := by
  intro n
  induction n using Nat.strongRecOn with
  | ind n ih =>
    intro s
    by_cases h : n = 0
    · subst h
      rw [txtG_zero, digs_zero]
      rfl
    · rw [txtG_step h, ih _ (by omega), digs_step h, ByteArray.data_append, Array.toList_append, digit_list]
      simp
theorem digs_inj : ∀ (n m : Nat), digs n = digs m → n = m := by
  intro n
  induction n using Nat.strongRecOn with
  | ind n ih =>
    intro m h
    by_cases hn : n = 0
    · subst hn
      by_cases hm : m = 0
      · exact hm.symm
      · rw [digs_zero, digs_step hm] at h
        simp at h
    · by_cases hm : m = 0
      · subst hm
        rw [digs_zero, digs_step hn] at h
        simp at h
      · rw [digs_step hn, digs_step hm] at h
        obtain ⟨h1, h2⟩ := List.append_inj' h rfl
        have h3 := ih _ (by omega) _ h1
        simp only [List.cons.injEq, and_true] at h2
        have h4 : n % 10 = m % 10 := by
          have e := congrArg UInt8.toNat h2
          simp only [UInt8.toNat_ofNat'] at e
          omega
        omega
theorem txt_inj {n m : Nat} (h : txt n = txt m) : n = m := by
  have := congrArg (fun b : ByteArray => b.data.toList) h
  simp only [txt, txtG_list] at this
  simp at this
  exact digs_inj n m this
/-- The n-th request. -/
def reqK (n : Nat) : PKey := ⟨(n : Int) % 3, 0, txt n, ⟨#[115]⟩, .empty⟩
def req (n : Nat) : Pnd := ⟨reqK n, (n : Int) % 3, (n : Int) % 4, n, ⟨#[48, 50, 48, 48]⟩, [.node 11 (txt n) []], ⟨#[48, 49, 48, 48]⟩, []⟩
theorem fields_one {w0 w : World} {C : List Chunk} {g : Nat} {n : Int} {s : ByteArray} (hS : Sat w0 w (.obj g (.cells #[.int .i64 n, .string s, .slice none 0 0] 104 (0, 0)) :: C)) : Sat w0 w (nodesC 133 1 104 (.slice (some ⟨g, 0, none⟩) 1 1) [.node n s []] :: C) := by
  refine nodes_open.2 ⟨[.slice none 0 0], ⟨rfl, by simp⟩, ?_⟩
  have h1 := row_shut (n := 1) (cap := 1) (sz := 3) hS (by omega) (by unfold maxLen; omega) rfl rfl
  exact (nodes_none.2 h1).sel [1]
theorem fields_none {w0 w : World} {C : List Chunk} (hS : Sat w0 w C) : Sat w0 w (nodesC 133 1 104 (.slice none 0 0) [] :: C) :=
  nodes_open.2 ⟨[], ⟨rfl, by simp⟩, row_nil hS⟩
theorem request_c {w0 w : World} {C : List Chunk} {n : Nat} (hS : Sat w0 w C) (hn : n ≤ 1000000) :
    Calls Try.prog 10 #[.int .i64 n] w fun e w' => ∃ A1 n1 c1 A2 n2 c2, e = .returned ((req n).value (.slice A1 n1 c1, .slice A2 n2 c2)) ∧ Sat w0 w' (mesC 1 (.slice A1 n1 c1, .slice A2 n2 c2) (req n) :: C) := by
  refine enter Try.func10 rfl Try.ntmps10 (Nat.le_of_ble_eq_true rfl) fun a hF => ?_
  refine wp_seq_k fun K0 hK0 => ?_
  refine wp_region_lit ?_
  refine s_newp hF rfl rfl rfl (ef_alloc (cs := #[_, _, _, _, _, _, _, _, _, _, _, _]) ze35 rfl) hS ?_; clear hF hS; intro b2 w hS a hF
  refine s_done ?_
  refine hK0 _ _ ?_; clear hK0
  refine wp_seq_k fun K1 hK1 => ?_
  refine wp_region_lit ?_
  refine s_pu hF rfl rfl rfl (pu_assign (hF.ev rfl)) ?_; clear hF; intro a hF
  refine s_done ?_
  refine hK1 _ _ ?_; clear hK1
  refine wp_seq_k fun K2 hK2 => ?_
  refine wp_seq_k fun K3 hK3 => ?_
  refine wp_region_lit ?_
  refine s_pu hF rfl rfl rfl (pu_move (hF.ev rfl)) ?_; clear hF; intro a hF
  refine s_pu hF rfl rfl rfl (pu_assign (hF.ev rfl)) ?_; clear hF; intro a hF
  refine s_done ?_
  refine hK3 _ _ ?_; clear hK3
  refine wp_block ?_
  refine wp_ind (fun j a w => ∃ (m : Nat) (s : ByteArray), j = m ∧ m ≤ n ∧ txtG m s = txt n ∧ s.size + m ≤ n ∧ Fr a 33 [(0, .int .i64 n), (2, .pointer (some ⟨b2, 0, none⟩)), (3, .string s), (4, .int .i64 m)] ∧ Sat w0 w (.obj b2 (.cells #[.int .i64 0, .int .i64 0, .string .empty, .string .empty, .string .empty, .int .i64 0, .int .i64 0, .int .i64 0, .string .empty, .slice none 0 0, .string .empty, .slice none 0 0] 35 (0, 0)) :: C)) n
    ⟨n, ⟨#[]⟩, rfl, Nat.le_refl _, rfl, by show 0 + n ≤ n; omega, hF.sub ⟨rfl, rfl, rfl, rfl, trivial⟩, hS⟩ ?_
  clear hS hF
  rintro j a w ⟨m, s, rfl, hm, ht, hsz, hF, hS⟩
  refine wp_seq_k fun K4 hK4 => ?_
  refine wp_seq_k fun K5 hK5 => ?_
  refine wp_region_lit ?_
  refine s_pu hF rfl rfl rfl (pu_move (hF.ev rfl)) ?_; clear hF; intro a hF
  refine s_pu hF rfl rfl rfl (pu_gtr (hF.ev rfl) (hF.ev rfl)) ?_; clear hF; intro a hF
  refine s_done ?_
  refine hK5 _ _ ?_; clear hK5
  refine wp_cond_split (hF.ev rfl) (fun hc0 => ?_) (fun hc0 => ?_)
  · -- cond 0 true
    try simp only [decide_eq_true_eq, decide_eq_false_iff_not, Bool.not_eq_true', Bool.not_eq_false', Int.not_lt, Int.not_le, ne_eq, Decidable.not_not, Bool.or_eq_true, Bool.or_eq_false_iff, Bool.and_eq_true, Bool.and_eq_false_imp] at hc0
    have hd := digit_size (n := j)
    unfold digit at hd
    refine wp_skip ?_
    refine hK4 _ _ ?_; clear hK4
    refine wp_seq_k fun K6 hK6 => ?_
    refine wp_block ?_
    refine wp_region_lit ?_
    refine s_pu hF rfl rfl rfl (pu_move (hF.ev rfl)) ?_; clear hF; intro a hF
    refine s_pu hF rfl rfl rfl (pu_rem64 (hF.ev rfl) (hF.ev rfl) (by omega)) ?_; clear hF; intro a hF
    refine s_pu hF rfl rfl rfl ((by exact pu_add64 (hF.ev rfl) (hF.ev rfl) (by omega))) ?_; clear hF; intro a hF
    refine s_pu hF rfl rfl rfl (pu_conv_int it3 it5 (hF.ev rfl)) ?_; clear hF; intro a hF
    refine s_news hF rfl rfl rfl (ef_lit1 (cs := [_]) sl101 ze5 rfl (hF.ev rfl) (by rfl) rfl (by omega) (by omega)) hS ?_; clear hF hS; intro b14 w hS a hF
    refine s_rd hF rfl rfl rfl (by exact rd_byte1 by101 Try.underlying9 (hF.ev rfl) (hS.cellL (i := 0) rfl rfl)) ?_; clear hF; intro a hF
    refine s_pu hF rfl rfl rfl (pu_move (hF.ev rfl)) ?_; clear hF; intro a hF
    refine s_pu hF rfl rfl rfl (pu_sadd (hF.ev rfl) (hF.ev rfl) (by omega)) ?_; clear hF; intro a hF
    refine s_pu hF rfl rfl rfl (pu_assign (hF.ev rfl)) ?_; clear hF; intro a hF
    refine s_done ?_
    refine blk_normal ?_
    refine hK6 _ _ ?_; clear hK6
    refine wp_region_lit ?_
    refine s_pu hF rfl rfl rfl (pu_move (hF.ev rfl)) ?_; clear hF; intro a hF
    refine s_pu hF rfl rfl rfl (pu_quo64 (hF.ev rfl) (hF.ev rfl) (by omega)) ?_; clear hF; intro a hF
    refine s_pu hF rfl rfl rfl (pu_assign (hF.ev rfl)) ?_; clear hF; intro a hF
    refine s_done ?_
    have hdv : (digit j ++ s).size = s.size + 1 := by rw [ByteArray.size_append, digit_size]; omega
    refine ⟨j / 10, by omega, j / 10, digit j ++ s, rfl, by omega, ?_, by omega, ?_, hS.tail⟩
    · rw [← ht]
      exact (txtG_step (by omega)).symm
    · rw [show ((j / 10 : Nat) : Int) = (j : Int) / 10 by omega]
      exact hF.sub ⟨rfl, rfl, rfl, rfl, trivial⟩
  · -- cond 0 false
    try simp only [decide_eq_true_eq, decide_eq_false_iff_not, Bool.not_eq_true', Bool.not_eq_false', Int.not_lt, Int.not_le, ne_eq, Decidable.not_not, Bool.or_eq_true, Bool.or_eq_false_iff, Bool.and_eq_true, Bool.and_eq_false_imp] at hc0
    refine wp_exit ?_
    refine then_exit ?_
    refine then_exit ?_
    refine blk_exit ?_
    refine hK2 _ _ ?_; clear hK2
    refine wp_seq_k fun K6 hK6 => ?_
    refine wp_region_lit ?_
    refine s_pu hF rfl rfl rfl (pu_move (hF.ev rfl)) ?_; clear hF; intro a hF
    refine s_pu hF rfl rfl rfl (pu_rem64 (hF.ev rfl) (hF.ev rfl) (by omega)) ?_; clear hF; intro a hF
    refine s_pu hF rfl rfl rfl (pu_move (hF.ev rfl)) ?_; clear hF; intro a hF
    refine s_pu hF rfl rfl rfl ((pu_build st30 (hF.evp rfl) rfl rfl : Pu _ _ _ (.agg #[_, _, _, _, _]))) ?_; clear hF; intro a hF
    refine s_pu hF rfl rfl rfl (pu_move (hF.ev rfl)) ?_; clear hF; intro a hF
    refine s_pu hF rfl rfl rfl (pu_rem64 (hF.ev rfl) (hF.ev rfl) (by omega)) ?_; clear hF; intro a hF
    refine s_pu hF rfl rfl rfl (pu_move (hF.ev rfl)) ?_; clear hF; intro a hF
    refine s_pu hF rfl rfl rfl (pu_rem64 (hF.ev rfl) (hF.ev rfl) (by omega)) ?_; clear hF; intro a hF
    refine s_pu hF rfl rfl rfl (pu_move (hF.ev rfl)) ?_; clear hF; intro a hF
    refine s_pu hF rfl rfl rfl (pu_move (hF.ev rfl)) ?_; clear hF; intro a hF
    refine s_pu hF rfl rfl rfl ((pu_build st104 (hF.evp rfl) rfl rfl : Pu _ _ _ (.agg #[_, _, _]))) ?_; clear hF; intro a hF
    refine s_news hF rfl rfl rfl (ef_lit1 (cs := [_, _, _]) sl31 ze104 rfl (hF.ev rfl) (by rfl) rfl (by omega) (by omega)) hS ?_; clear hF hS; intro b29 w hS a hF
    refine s_pu hF rfl rfl rfl ((pu_build st33 (hF.evp rfl) rfl rfl : Pu _ _ _ (.agg #[_, _]))) ?_; clear hF; intro a hF
    refine s_pu hF rfl rfl rfl ((pu_build st33 (hF.evp rfl) rfl rfl : Pu _ _ _ (.agg #[_, _]))) ?_; clear hF; intro a hF
    refine s_pu hF rfl rfl rfl ((pu_build st35 (hF.evp rfl) rfl rfl : Pu _ _ _ (.agg #[_, _, _, _, _, _, _, _, _, _, _, _]))) ?_; clear hF; intro a hF
    ((refine s_store (vs := [_, _, _, _, _, _, _, _, _, _, _, _]) (cs' := #[_, _, _, _, _, _, _, _, _, _, _, _]) 1 hF rfl (hF.ev rfl) (hF.ev rfl) hS rfl rfl sz35 (by rfl) (by exact Nat.le_of_ble_eq_true rfl) rfl ?_))
    clear hS; intro w hS; (try simp only [upd, del] at hS)
    refine s_done ?_
    refine hK6 _ _ ?_; clear hK6
    refine wp_ret ?_
    have hj : j = 0 := by omega
    subst hj
    rw [txtG_zero] at ht
    subst ht
    refine finc1 Try.results10 hF rfl (by exact holds_block (i := 1) ag35 hS rfl rfl) ?_
    refine ⟨some ⟨b29, 0, none⟩, 1, 1, none, 0, 0, rfl, ?_⟩
    exact mes_in (p := req n) ((fields_one (fields_none (hS.drop 1) |>.front 1 rfl)))
/-- The n-th request, compared. -/
theorem its_own {w0 w : World} {C : List Chunk} {p : Pnd} {A1 A2 : Option Addr} {n1 c1 n2 c2 : Nat} {n : Nat} (hS : Sat w0 w (mesC 1 (.slice A1 n1 c1, .slice A2 n2 c2) p :: C)) (hn : n ≤ 1000000) :
    Calls Try.prog 13 #[p.value (.slice A1 n1 c1, .slice A2 n2 c2), .int .i64 n] w fun e w' => ∃ b : Bool, e = .returned (.bool b) ∧ (b = true ↔ p = req n) ∧ Sat w0 w' (mesC 1 (.slice A1 n1 c1, .slice A2 n2 c2) p :: C) := by
  unfold Pnd.value
  refine enter Try.func13 rfl Try.ntmps13 (Nat.le_of_ble_eq_true rfl) fun a hF => ?_
  refine wp_seq_k fun K0 hK0 => ?_
  refine wp_region_lit ?_
  refine s_newp hF rfl rfl rfl (ef_box (cs := #[_, _, _, _, _, _, _, _, _, _, _, _]) (hF.ev rfl) rfl) hS ?_; clear hF hS; intro b2 w hS a hF
  refine s_pu hF rfl rfl rfl (pu_assign (hF.ev rfl)) ?_; clear hF; intro a hF
  refine s_done ?_
  refine hK0 _ _ ?_; clear hK0
  refine wp_seq_k fun K1 hK1 => ?_
  refine d_start (S := (fun w => Sat w0 w _)) (ds := [3]) (ord := [(0, .tk), (1, .pu), (2, .on), (3, .ls), (4, .pu)]) mixed ⟨by kernel_rfl, fun _ d _ _ _ h => by cases d <;> exact h⟩ hS.drew fun hD => ?_
  replace hS := hS.drew; generalize w.drew = w at hS ⊢
  refine d_rd hD hF rfl rfl rfl rfl rfl hS (fun w hS => (by exact rd_loadB (i := 0) (vs := [_, _, _, _, _, _, _, _, _, _, _, _]) ag35 (hF.ev rfl) hS rfl rfl)) ?_; clear hF; intro a hF
  refine d_pu hD hF rfl rfl rfl rfl rfl (pu_move (hF.ev rfl)) ?_; clear hF; intro a hF
  refine d_en hD hF rfl rfl rfl rfl rfl (run_fn fk10 (hF.ev rfl) (hF.evs rfl)) (request_c hS hn) ?_
  clear hS; rintro e w ⟨_, _, _, _, _, _, rfl, hS⟩
  unfold Pnd.value
  refine ⟨_, rfl, hS.tail, ?_⟩; clear hF; intro a hF
  refine l_en hD hF rfl rfl rfl rfl rfl (run_fn fk35 (hF.ev rfl) (hF.evs rfl)) (same_own 1 (p := p) (q := req n) (hS.sel [2])) ?_
  clear hS; rintro e w ⟨bb, rfl, hbb, hS⟩
  refine ⟨_, rfl, ?_⟩; clear hF; intro a hF
  refine d_pu hD hF rfl rfl rfl rfl rfl (pu_assign (hF.ev rfl)) ?_; clear hF; intro a hF
  refine d_done hD rfl ?_; clear hD
  refine hK1 _ _ ?_; clear hK1
  refine wp_seq_k fun K2 hK2 => ?_
  refine wp_region_lit ?_
  refine s_pu hF rfl rfl rfl (pu_move (hF.ev rfl)) ?_; clear hF; intro a hF
  refine s_pu hF rfl rfl rfl (pu_assign (hF.ev rfl)) ?_; clear hF; intro a hF
  refine s_done ?_
  refine hK2 _ _ ?_; clear hK2
  refine wp_ret ?_
  refine fin1 Try.results13 hF rfl ?_
  exact ⟨_, rfl, hbb, hS.drop 1 |>.drop 1⟩
end Go.Proofs.Ytbfdebddoncfhaa
