/- CONTRACTS: what is wanted. -/
import Derived.Test.YtakjakmhecfmiaaCwSPa
set_option linter.unusedVariables false
set_option linter.unusedSimpArgs false
set_option maxHeartbeats 4000000
set_option maxRecDepth 20000
namespace Go.Proofs.Ytakjakmhecfmiaa
open Go.Cw
attribute [local irreducible] aops awp seqQ blockQ seqC loopQ endQ getB

theorem specP19 (S : St) (a b c d : Int) : ASpec Try.prog 19 [.agg [vi a, vi b, vi c, vi d]] S (.agg [vi a, vi b, vi c, vi d]) S := by
  refine q_fun hmix cP19 rfl (Nat.le_of_ble_eq_true rfl) fun hwf hu => ?_
  repeat' (first
    | refine q_seq ?_
    | (refine q_reg fun n' hn' => ?_; simp only [List.length_cons, List.length_nil, Nat.zero_add, Nat.reduceAdd] at hn')
    | refine q_mov_p rfl ?_
    | refine q_mov_agg rfl ?_
    | refine q_nil ?_
    | refine q_normal ?_
    | refine q_ret ?_
    | refine q_skip ?_
    | refine q_seq_ret ?_
    | (refine q_alloc fun k hk => ?_)
    | (refine q_box_agg rfl fun k hk => ?_)
    | (refine q_box_p rfl fun k hk => ?_)
    | (refine q_box_sl rfl fun k hk => ?_)
    | (refine q_box_fn rfl fun k hk => ?_)
    | refine q_mov_ptr rfl ?_
    | refine q_mov_ref rfl ?_
    | refine q_mov_sl rfl ?_
    | refine q_mov_fn rfl ?_
    | refine q_loadA_ref rfl (Nat.le_of_ble_eq_true rfl) (by first | (simp only [List.take_zero, List.take_succ_cons, List.take_nil, List.drop_zero, List.drop_succ_cons, List.drop_nil, List.nil_append, List.cons_append, List.append_nil, List.map_cons, List.map_nil, List.replicate_succ, List.replicate_zero, List.flatten_cons, List.flatten_nil, Nat.zero_add, Nat.reduceAdd, chunk]; rfl) | rfl) ?_
    | refine q_loadA rfl (by repeat (first | exact get_same | refine get_other (by omega) ?_)) (Nat.le_of_ble_eq_true rfl) (by first | (simp only [List.take_zero, List.take_succ_cons, List.take_nil, List.drop_zero, List.drop_succ_cons, List.drop_nil, List.nil_append, List.cons_append, List.append_nil, List.map_cons, List.map_nil, List.replicate_succ, List.replicate_zero, List.flatten_cons, List.flatten_nil, Nat.zero_add, Nat.reduceAdd, chunk]; rfl) | rfl) ?_
    | refine q_store_agg rfl (by repeat (first | exact get_same | refine get_other (by omega) ?_)) rfl rfl (Nat.le_of_ble_eq_true rfl) (by first | (simp only [List.take_zero, List.take_succ_cons, List.take_nil, List.drop_zero, List.drop_succ_cons, List.drop_nil, List.nil_append, List.cons_append, List.append_nil, List.map_cons, List.map_nil, List.replicate_succ, List.replicate_zero, List.flatten_cons, List.flatten_nil, Nat.zero_add, Nat.reduceAdd, chunk]; rfl) | rfl) ?_
    | refine q_store_p rfl (by repeat (first | exact get_same | refine get_other (by omega) ?_)) rfl (Nat.le_of_ble_eq_true rfl) (by first | (simp only [List.take_zero, List.take_succ_cons, List.take_nil, List.drop_zero, List.drop_succ_cons, List.drop_nil, List.nil_append, List.cons_append, List.append_nil, List.map_cons, List.map_nil, List.replicate_succ, List.replicate_zero, List.flatten_cons, List.flatten_nil, Nat.zero_add, Nat.reduceAdd, chunk]; rfl) | rfl) ?_
    | refine q_store_sl rfl (by repeat (first | exact get_same | refine get_other (by omega) ?_)) rfl (Nat.le_of_ble_eq_true rfl) (by first | (simp only [List.take_zero, List.take_succ_cons, List.take_nil, List.drop_zero, List.drop_succ_cons, List.drop_nil, List.nil_append, List.cons_append, List.append_nil, List.map_cons, List.map_nil, List.replicate_succ, List.replicate_zero, List.flatten_cons, List.flatten_nil, Nat.zero_add, Nat.reduceAdd, chunk]; rfl) | rfl) ?_
    | refine q_store_fn rfl (by repeat (first | exact get_same | refine get_other (by omega) ?_)) rfl (Nat.le_of_ble_eq_true rfl) (by first | (simp only [List.take_zero, List.take_succ_cons, List.take_nil, List.drop_zero, List.drop_succ_cons, List.drop_nil, List.nil_append, List.cons_append, List.append_nil, List.map_cons, List.map_nil, List.replicate_succ, List.replicate_zero, List.flatten_cons, List.flatten_nil, Nat.zero_add, Nat.reduceAdd, chunk]; rfl) | rfl) ?_
    )
  all_goals (refine q_fin hwf (res_cons (res_cellA rfl (by repeat (first | exact get_same | refine get_other (by omega) ?_)) (Nat.le_of_ble_eq_true rfl) (by first | (simp only [List.take_zero, List.take_succ_cons, List.take_nil, List.drop_zero, List.drop_succ_cons, List.drop_nil, List.nil_append, List.cons_append, List.append_nil, List.map_cons, List.map_nil, List.replicate_succ, List.replicate_zero, List.flatten_cons, List.flatten_nil, Nat.zero_add, Nat.reduceAdd, chunk]; rfl) | rfl)) res_nil) ?_ ?_ ?_ ?_; (focus (rfl)); (focus (simp only [AV.under, AV.underL, Tok.under, and_self])); (focus (first | trivial | (simp only [keysP, and_true]; omega) | (repeat' (first | exact trivial | refine ⟨by omega, ?_⟩ | exact keys_vecB (fun k hk => by have := htk k hk; omega) trivial)))); omega)
theorem specP20 (S : St) (a b c d : Int) : ASpec Try.prog 20 [.agg [vi a, vi b, vi c, vi d]] S (.agg [vi c, vi d, vi a, vi b]) S := by
  refine q_fun hmix cP20 rfl (Nat.le_of_ble_eq_true rfl) fun hwf hu => ?_
  repeat' (first
    | refine q_seq ?_
    | (refine q_reg fun n' hn' => ?_; simp only [List.length_cons, List.length_nil, Nat.zero_add, Nat.reduceAdd] at hn')
    | refine q_mov_p rfl ?_
    | refine q_mov_agg rfl ?_
    | refine q_nil ?_
    | refine q_normal ?_
    | refine q_ret ?_
    | refine q_skip ?_
    | refine q_seq_ret ?_
    | (refine q_alloc fun k hk => ?_)
    | (refine q_box_agg rfl fun k hk => ?_)
    | (refine q_box_p rfl fun k hk => ?_)
    | (refine q_box_sl rfl fun k hk => ?_)
    | (refine q_box_fn rfl fun k hk => ?_)
    | refine q_fadr rfl rfl ?_
    | refine q_fadr_ref rfl rfl ?_
    | refine q_mov_ptr rfl ?_
    | refine q_mov_ref rfl ?_
    | refine q_mov_sl rfl ?_
    | refine q_mov_fn rfl ?_
    | refine q_loadA_ref rfl (Nat.le_of_ble_eq_true rfl) (by first | (simp only [List.take_zero, List.take_succ_cons, List.take_nil, List.drop_zero, List.drop_succ_cons, List.drop_nil, List.nil_append, List.cons_append, List.append_nil, List.map_cons, List.map_nil, List.replicate_succ, List.replicate_zero, List.flatten_cons, List.flatten_nil, Nat.zero_add, Nat.reduceAdd, chunk]; rfl) | rfl) ?_
    | refine q_loadA rfl (by repeat (first | exact get_same | refine get_other (by omega) ?_)) (Nat.le_of_ble_eq_true rfl) (by first | (simp only [List.take_zero, List.take_succ_cons, List.take_nil, List.drop_zero, List.drop_succ_cons, List.drop_nil, List.nil_append, List.cons_append, List.append_nil, List.map_cons, List.map_nil, List.replicate_succ, List.replicate_zero, List.flatten_cons, List.flatten_nil, Nat.zero_add, Nat.reduceAdd, chunk]; rfl) | rfl) ?_
    | refine q_store_agg rfl (by repeat (first | exact get_same | refine get_other (by omega) ?_)) rfl rfl (Nat.le_of_ble_eq_true rfl) (by first | (simp only [List.take_zero, List.take_succ_cons, List.take_nil, List.drop_zero, List.drop_succ_cons, List.drop_nil, List.nil_append, List.cons_append, List.append_nil, List.map_cons, List.map_nil, List.replicate_succ, List.replicate_zero, List.flatten_cons, List.flatten_nil, Nat.zero_add, Nat.reduceAdd, chunk]; rfl) | rfl) ?_
    | refine q_store_p rfl (by repeat (first | exact get_same | refine get_other (by omega) ?_)) rfl (Nat.le_of_ble_eq_true rfl) (by first | (simp only [List.take_zero, List.take_succ_cons, List.take_nil, List.drop_zero, List.drop_succ_cons, List.drop_nil, List.nil_append, List.cons_append, List.append_nil, List.map_cons, List.map_nil, List.replicate_succ, List.replicate_zero, List.flatten_cons, List.flatten_nil, Nat.zero_add, Nat.reduceAdd, chunk]; rfl) | rfl) ?_
    | refine q_store_sl rfl (by repeat (first | exact get_same | refine get_other (by omega) ?_)) rfl (Nat.le_of_ble_eq_true rfl) (by first | (simp only [List.take_zero, List.take_succ_cons, List.take_nil, List.drop_zero, List.drop_succ_cons, List.drop_nil, List.nil_append, List.cons_append, List.append_nil, List.map_cons, List.map_nil, List.replicate_succ, List.replicate_zero, List.flatten_cons, List.flatten_nil, Nat.zero_add, Nat.reduceAdd, chunk]; rfl) | rfl) ?_
    | refine q_store_fn rfl (by repeat (first | exact get_same | refine get_other (by omega) ?_)) rfl (Nat.le_of_ble_eq_true rfl) (by first | (simp only [List.take_zero, List.take_succ_cons, List.take_nil, List.drop_zero, List.drop_succ_cons, List.drop_nil, List.nil_append, List.cons_append, List.append_nil, List.map_cons, List.map_nil, List.replicate_succ, List.replicate_zero, List.flatten_cons, List.flatten_nil, Nat.zero_add, Nat.reduceAdd, chunk]; rfl) | rfl) ?_
    | (apply q_build; (focus (repeat' (first | exact fill_nil | (apply fill_p rfl (Nat.le_of_ble_eq_true rfl); (focus (first | (simp only [List.take_zero, List.take_succ_cons, List.take_nil, List.drop_zero, List.drop_succ_cons, List.drop_nil, List.nil_append, List.cons_append, List.append_nil, List.map_cons, List.map_nil, List.replicate_succ, List.replicate_zero, List.flatten_cons, List.flatten_nil, Nat.zero_add, Nat.reduceAdd, chunk]; rfl) | rfl))) | (apply fill_agg; (focus rfl); (focus rfl); (focus exact Nat.le_of_ble_eq_true rfl); (focus (first | (simp only [List.take_zero, List.take_succ_cons, List.take_nil, List.drop_zero, List.drop_succ_cons, List.drop_nil, List.nil_append, List.cons_append, List.append_nil, List.map_cons, List.map_nil, List.replicate_succ, List.replicate_zero, List.flatten_cons, List.flatten_nil, Nat.zero_add, Nat.reduceAdd, chunk]; rfl) | rfl))) | (apply fill_sl rfl (Nat.le_of_ble_eq_true rfl); (focus (first | (simp only [List.take_zero, List.take_succ_cons, List.take_nil, List.drop_zero, List.drop_succ_cons, List.drop_nil, List.nil_append, List.cons_append, List.append_nil, List.map_cons, List.map_nil, List.replicate_succ, List.replicate_zero, List.flatten_cons, List.flatten_nil, Nat.zero_add, Nat.reduceAdd, chunk]; rfl) | rfl))) | (apply fill_fn rfl (Nat.le_of_ble_eq_true rfl); (focus (first | (simp only [List.take_zero, List.take_succ_cons, List.take_nil, List.drop_zero, List.drop_succ_cons, List.drop_nil, List.nil_append, List.cons_append, List.append_nil, List.map_cons, List.map_nil, List.replicate_succ, List.replicate_zero, List.flatten_cons, List.flatten_nil, Nat.zero_add, Nat.reduceAdd, chunk]; rfl) | rfl))) | (apply fill_ptr rfl (Nat.le_of_ble_eq_true rfl); (focus (first | (simp only [List.take_zero, List.take_succ_cons, List.take_nil, List.drop_zero, List.drop_succ_cons, List.drop_nil, List.nil_append, List.cons_append, List.append_nil, List.map_cons, List.map_nil, List.replicate_succ, List.replicate_zero, List.flatten_cons, List.flatten_nil, Nat.zero_add, Nat.reduceAdd, chunk]; rfl) | rfl)))))))
    )
  all_goals (refine q_fin hwf (res_cons (res_cellA rfl (by repeat (first | exact get_same | refine get_other (by omega) ?_)) (Nat.le_of_ble_eq_true rfl) (by first | (simp only [List.take_zero, List.take_succ_cons, List.take_nil, List.drop_zero, List.drop_succ_cons, List.drop_nil, List.nil_append, List.cons_append, List.append_nil, List.map_cons, List.map_nil, List.replicate_succ, List.replicate_zero, List.flatten_cons, List.flatten_nil, Nat.zero_add, Nat.reduceAdd, chunk]; rfl) | rfl)) res_nil) ?_ ?_ ?_ ?_; (focus (rfl)); (focus (simp only [AV.under, AV.underL, Tok.under, and_self])); (focus (first | trivial | (simp only [keysP, and_true]; omega) | (repeat' (first | exact trivial | refine ⟨by omega, ?_⟩ | exact keys_vecB (fun k hk => by have := htk k hk; omega) trivial)))); omega)
theorem specP22 (S : St) (a b c d a' b' c' d' : Int) : ASpec Try.prog 22 [.agg [vi a, vi b, vi c, vi d], .agg [vi a', vi b', vi c', vi d']] S (vb (decide (hcmp ⟨a, b, c, d⟩ ⟨a', b', c', d'⟩ < 0))) S := by
  refine q_fun hmix cP22 rfl (Nat.le_of_ble_eq_true rfl) fun hwf hu => ?_
  repeat' (first
    | refine q_call (fun S => specP9 S _ _ _ _ _ _ _ _) ?_
    | refine q_seq ?_
    | (refine q_reg fun n' hn' => ?_; simp only [List.length_cons, List.length_nil, Nat.zero_add, Nat.reduceAdd] at hn')
    | refine q_mov_p rfl ?_
    | refine q_mov_agg rfl ?_
    | refine q_lss rfl rfl (fun h => ?_) (fun h => ?_)
    | refine q_nil ?_
    | refine q_normal ?_
    | refine q_ret ?_
    | refine q_skip ?_
    | refine q_seq_ret ?_
    | (refine q_box_agg rfl fun k hk => ?_)
    | (refine q_box_p rfl fun k hk => ?_)
    | (refine q_box_sl rfl fun k hk => ?_)
    | (refine q_box_fn rfl fun k hk => ?_)
    | refine q_mov_ptr rfl ?_
    | refine q_mov_ref rfl ?_
    | refine q_mov_sl rfl ?_
    | refine q_mov_fn rfl ?_
    | refine q_loadA_ref rfl (Nat.le_of_ble_eq_true rfl) (by first | (simp only [List.take_zero, List.take_succ_cons, List.take_nil, List.drop_zero, List.drop_succ_cons, List.drop_nil, List.nil_append, List.cons_append, List.append_nil, List.map_cons, List.map_nil, List.replicate_succ, List.replicate_zero, List.flatten_cons, List.flatten_nil, Nat.zero_add, Nat.reduceAdd, chunk]; rfl) | rfl) ?_
    | refine q_loadA rfl (by repeat (first | exact get_same | refine get_other (by omega) ?_)) (Nat.le_of_ble_eq_true rfl) (by first | (simp only [List.take_zero, List.take_succ_cons, List.take_nil, List.drop_zero, List.drop_succ_cons, List.drop_nil, List.nil_append, List.cons_append, List.append_nil, List.map_cons, List.map_nil, List.replicate_succ, List.replicate_zero, List.flatten_cons, List.flatten_nil, Nat.zero_add, Nat.reduceAdd, chunk]; rfl) | rfl) ?_
    | refine q_mov_tup rfl ?_
    )
  all_goals (refine q_fin_bool hwf rfl ?_ ?_ ?_; (focus (simp; omega)); (focus (first | trivial | (simp only [keysP, and_true]; omega) | (repeat' (first | exact trivial | refine ⟨by omega, ?_⟩ | exact keys_vecB (fun k hk => by have := htk k hk; omega) trivial)))); omega)

def doesB (op : Int) (a b : Bool) : Bool := if op = 0 then a || b else if op = 1 then a && b else if op = 2 then a && !b else if op = 3 then a != b else false
def fillsB (fill n : Int) : Bool := decide (fill = 0) && decide (n.tmod 2 ≠ 0) || decide (fill = 1) && decide (n ≠ 0)
theorem specP28 (S : St) (op : Int) (a b : Bool) : ASpec Try.prog 28 [vi op, vb a, vb b] S (vb (doesB op a b)) S := by
  refine q_fun hmix cP28 rfl (Nat.le_of_ble_eq_true rfl) fun hwf hu => ?_
  cases a <;> cases b
  all_goals
    repeat' (first
      | refine q_seq ?_
      | (refine q_reg fun n' hn' => ?_; simp only [List.length_cons, List.length_nil, Nat.zero_add, Nat.reduceAdd] at hn')
      | refine q_mov_p rfl ?_
      | refine q_on rfl ?_
      | refine q_off rfl rfl ?_
      | refine q_off_tup rfl ?_
      | refine q_mov_agg rfl ?_
      | refine q_eql rfl rfl (fun h => ?_) (fun h => ?_)
      | refine q_pick_t rfl ?_
      | refine q_pick_f rfl ?_
      | refine q_nil ?_
      | refine q_normal ?_
      | refine q_cond_t rfl ?_
      | refine q_cond_f rfl ?_
      | refine q_block ?_
      | refine q_ret ?_
      | refine q_skip ?_
      | refine q_seq_ret ?_
      | refine q_block_normal ?_
      | refine q_block_ret ?_
      | refine q_block_hit ?_
      | refine q_block_miss rfl ?_
      | refine q_not rfl rfl ?_
      | refine q_eqB rfl rfl rfl ?_
      | refine q_mov_ptr rfl ?_
      | refine q_mov_ref rfl ?_
      | refine q_mov_sl rfl ?_
      | refine q_mov_fn rfl ?_
      )
    all_goals (refine q_fin_bool hwf rfl ?_ ?_ ?_; (focus (simp_all [doesB])); (focus (first | trivial | (simp only [keysP, and_true]; omega) | (repeat' (first | exact trivial | refine ⟨by omega, ?_⟩ | exact keys_vecB (fun k hk => by have := htk k hk; omega) trivial)))); omega)
theorem specP29 (S : St) (fill n : Int) : ASpec Try.prog 29 [vi fill, vi n] S (vb (fillsB fill n)) S := by
  refine q_fun hmix cP29 rfl (Nat.le_of_ble_eq_true rfl) fun hwf hu => ?_
  repeat' (first
    | refine q_rem rfl rfl (by decide) rfl ?_
    | refine q_seq ?_
    | (refine q_reg fun n' hn' => ?_; simp only [List.length_cons, List.length_nil, Nat.zero_add, Nat.reduceAdd] at hn')
    | refine q_mov_p rfl ?_
    | refine q_on rfl ?_
    | refine q_off rfl rfl ?_
    | refine q_off_tup rfl ?_
    | refine q_mov_agg rfl ?_
    | refine q_eql rfl rfl (fun h => ?_) (fun h => ?_)
    | refine q_neq rfl rfl (fun h => ?_) (fun h => ?_)
    | refine q_pick_t rfl ?_
    | refine q_pick_f rfl ?_
    | refine q_nil ?_
    | refine q_normal ?_
    | refine q_ret ?_
    | refine q_skip ?_
    | refine q_seq_ret ?_
    | refine q_mov_ptr rfl ?_
    | refine q_mov_ref rfl ?_
    | refine q_mov_sl rfl ?_
    | refine q_mov_fn rfl ?_
    )
  all_goals (refine q_fin_bool hwf rfl ?_ ?_ ?_; (focus (simp_all [fillsB])); (focus (first | trivial | (simp only [keysP, and_true]; omega) | (repeat' (first | exact trivial | refine ⟨by omega, ?_⟩ | exact keys_vecB (fun k hk => by have := htk k hk; omega) trivial)))); omega)
theorem specP33 (S : St) (op : Int) (a b : Bool) : ASpec Try.prog 33 [vi op, vb a, vb b] S (vb (doesB op a b)) S := by
  refine q_fun hmix cP33 rfl (Nat.le_of_ble_eq_true rfl) fun hwf hu => ?_
  cases a <;> cases b
  all_goals
    repeat' (first
      | refine q_seq ?_
      | (refine q_reg fun n' hn' => ?_; simp only [List.length_cons, List.length_nil, Nat.zero_add, Nat.reduceAdd] at hn')
      | refine q_mov_p rfl ?_
      | refine q_on rfl ?_
      | refine q_off rfl rfl ?_
      | refine q_off_tup rfl ?_
      | refine q_mov_agg rfl ?_
      | refine q_eql rfl rfl (fun h => ?_) (fun h => ?_)
      | refine q_pick_t rfl ?_
      | refine q_pick_f rfl ?_
      | refine q_nil ?_
      | refine q_normal ?_
      | refine q_cond_t rfl ?_
      | refine q_cond_f rfl ?_
      | refine q_ret ?_
      | refine q_skip ?_
      | refine q_seq_ret ?_
      | refine q_mov_ptr rfl ?_
      | refine q_mov_ref rfl ?_
      | refine q_mov_sl rfl ?_
      | refine q_mov_fn rfl ?_
      )
    all_goals (refine q_fin_bool hwf rfl ?_ ?_ ?_; (focus (simp_all [doesB])); (focus (first | trivial | (simp only [keysP, and_true]; omega) | (repeat' (first | exact trivial | refine ⟨by omega, ?_⟩ | exact keys_vecB (fun k hk => by have := htk k hk; omega) trivial)))); omega)
theorem tmod2 (n : Int) : n.tmod 2 = 0 ∨ n.tmod 2 = 1 ∨ n.tmod 2 = -1 := by
  rcases Int.le_total 0 n with h | h
  · rw [Int.tmod_eq_emod_of_nonneg h]; omega
  · have : n = -(-n) := by omega
    rw [this, Int.neg_tmod, Int.tmod_eq_emod_of_nonneg (by omega)]; omega
theorem specP34 (S : St) (fill n : Int) : ASpec Try.prog 34 [vi fill, vi n] S (vb (fillsB fill n)) S := by
  refine q_fun hmix cP34 rfl (Nat.le_of_ble_eq_true rfl) fun hwf hu => ?_
  repeat' (first
    | refine q_rem rfl rfl (by decide) rfl ?_
    | refine q_seq ?_
    | (refine q_reg fun n' hn' => ?_; simp only [List.length_cons, List.length_nil, Nat.zero_add, Nat.reduceAdd] at hn')
    | refine q_mov_p rfl ?_
    | refine q_on rfl ?_
    | refine q_off rfl rfl ?_
    | refine q_off_tup rfl ?_
    | refine q_mov_agg rfl ?_
    | refine q_eql rfl rfl (fun h => ?_) (fun h => ?_)
    | refine q_neq rfl rfl (fun h => ?_) (fun h => ?_)
    | refine q_pick_t rfl ?_
    | refine q_pick_f rfl ?_
    | refine q_nil ?_
    | refine q_normal ?_
    | refine q_cond_t rfl ?_
    | refine q_cond_f rfl ?_
    | refine q_ret ?_
    | refine q_skip ?_
    | refine q_seq_ret ?_
    | refine q_mov_ptr rfl ?_
    | refine q_mov_ref rfl ?_
    | refine q_mov_sl rfl ?_
    | refine q_mov_fn rfl ?_
    )
  all_goals have ht := tmod2 n
  all_goals (refine q_fin_bool hwf rfl ?_ ?_ ?_; (focus (first | (simp_all [fillsB]; done) | (simp_all [fillsB]; omega))); (focus (first | trivial | (simp only [keysP, and_true]; omega) | (repeat' (first | exact trivial | refine ⟨by omega, ?_⟩ | exact keys_vecB (fun k hk => by have := htk k hk; omega) trivial)))); omega)

def wantsB (op fill a b : Int) : Bool := doesB op (fillsB fill a) (fillsB fill b)
theorem specP18 (S : St) (c0 c1 : AV) (op fi ru ca a b : Int) : ASpec Try.prog 18 [.agg [c0, c1, vi op, vi fi, vi ru, vi ca], vi a, vi b] S (vb (wantsB op fi a b)) S := by
  refine q_fun hmix cP18 rfl (Nat.le_of_ble_eq_true rfl) fun hwf hu => ?_
  repeat' (first
    | refine q_call (fun S => specP29 S _ _) ?_
    | refine q_call (fun S => specP28 S _ _ _) ?_
    | refine q_seq ?_
    | (refine q_reg fun n' hn' => ?_; simp only [List.length_cons, List.length_nil, Nat.zero_add, Nat.reduceAdd] at hn')
    | refine q_mov_p rfl ?_
    | refine q_mov_agg rfl ?_
    | refine q_nil_drawn trivial ?_
    | refine q_nil_drawn (sep1 rfl rfl (by omega) trivial) ?_
    | refine q_nil_drawn (sep1 rfl rfl (by omega) (sep1 rfl rfl (by omega) trivial)) ?_
    | refine q_nil ?_
    | refine q_normal ?_
    | refine q_ret ?_
    | refine q_skip ?_
    | refine q_seq_ret ?_
    | (refine q_box_agg rfl fun k hk => ?_)
    | (refine q_box_p rfl fun k hk => ?_)
    | (refine q_box_sl rfl fun k hk => ?_)
    | (refine q_box_fn rfl fun k hk => ?_)
    | refine q_fadr rfl rfl ?_
    | refine q_fadr_ref rfl rfl ?_
    | refine q_mov_ptr rfl ?_
    | refine q_mov_ref rfl ?_
    | refine q_mov_sl rfl ?_
    | refine q_mov_fn rfl ?_
    | refine q_load1_ref rfl rfl ?_
    | refine q_load1 rfl (by repeat (first | exact get_same | refine get_other (by omega) ?_)) rfl ?_
    | refine q_nil_drawn trivial ?_
    | (refine q_drawn fun n' hn' => ?_; simp only [List.length_cons, List.length_nil, Nat.zero_add, Nat.reduceAdd] at hn')
    | refine q_mov_tup rfl ?_
    )
  all_goals (refine q_fin_bool hwf rfl ?_ ?_ ?_; (focus (rfl)); (focus (first | trivial | (simp only [keysP, and_true]; omega) | (repeat' (first | exact trivial | refine ⟨by omega, ?_⟩ | exact keys_vecB (fun k hk => by have := htk k hk; omega) trivial)))); omega)
theorem specP25 (S : St) (c0 c1 : AV) (op fi ru ca a b : Int) : ASpec Try.prog 25 [.agg [c0, c1, vi op, vi fi, vi ru, vi ca], .agg [vi a, vi b]] S (vb (wantsB op fi a b)) S := by
  refine q_fun hmix cP25 rfl (Nat.le_of_ble_eq_true rfl) fun hwf hu => ?_
  repeat' (first
    | refine q_call (fun S => specP34 S _ _) ?_
    | refine q_call (fun S => specP33 S _ _ _) ?_
    | refine q_seq ?_
    | (refine q_reg fun n' hn' => ?_; simp only [List.length_cons, List.length_nil, Nat.zero_add, Nat.reduceAdd] at hn')
    | refine q_mov_p rfl ?_
    | refine q_mov_agg rfl ?_
    | refine q_nil_drawn trivial ?_
    | refine q_nil_drawn (sep1 rfl rfl (by omega) trivial) ?_
    | refine q_nil_drawn (sep1 rfl rfl (by omega) (sep1 rfl rfl (by omega) trivial)) ?_
    | refine q_nil ?_
    | refine q_normal ?_
    | refine q_ret ?_
    | refine q_skip ?_
    | refine q_seq_ret ?_
    | (refine q_box_agg rfl fun k hk => ?_)
    | (refine q_box_p rfl fun k hk => ?_)
    | (refine q_box_sl rfl fun k hk => ?_)
    | (refine q_box_fn rfl fun k hk => ?_)
    | refine q_fadr rfl rfl ?_
    | refine q_fadr_ref rfl rfl ?_
    | refine q_mov_ptr rfl ?_
    | refine q_mov_ref rfl ?_
    | refine q_mov_sl rfl ?_
    | refine q_mov_fn rfl ?_
    | refine q_load1_ref rfl rfl ?_
    | refine q_load1 rfl (by repeat (first | exact get_same | refine get_other (by omega) ?_)) rfl ?_
    | refine q_nil_drawn trivial ?_
    | (refine q_drawn fun n' hn' => ?_; simp only [List.length_cons, List.length_nil, Nat.zero_add, Nat.reduceAdd] at hn')
    | refine q_iadrA rfl rfl (by omega) (by omega) rfl ?_
    | refine q_mov_tup rfl ?_
    )
  all_goals (refine q_fin_bool hwf rfl ?_ ?_ ?_; (focus (rfl)); (focus (first | trivial | (simp only [keysP, and_true]; omega) | (repeat' (first | exact trivial | refine ⟨by omega, ?_⟩ | exact keys_vecB (fun k hk => by have := htk k hk; omega) trivial)))); omega)
theorem specP17 (S : St) (kc : Nat) (c0 c1 : AV) (op fi ru ca a b : Int) (hkc : S.H kc = some (.cells [c0, c1, vi op, vi fi, vi ru, vi ca])) : ASpec Try.prog 17 [.agg [vi a, vi b], .ptr kc 0] S (vb (wantsB op fi a b)) S := by
  refine q_fun hmix cP17 rfl (Nat.le_of_ble_eq_true rfl) fun hwf hu => ?_
  have huk : kc < S.n := hu.2.1
  repeat' (first
    | refine q_loadA (k := kc) rfl (by (repeat (refine get_other (by omega) ?_)); rw [getB_nil]; exact hkc) (Nat.le_of_ble_eq_true rfl) rfl ?_
    | refine q_call (fun S => specP18 S _ _ _ _ _ _ _ _) ?_
    | refine q_seq ?_
    | (refine q_reg fun n' hn' => ?_; simp only [List.length_cons, List.length_nil, Nat.zero_add, Nat.reduceAdd] at hn')
    | refine q_mov_p rfl ?_
    | refine q_mov_agg rfl ?_
    | refine q_nil ?_
    | refine q_normal ?_
    | refine q_ret ?_
    | refine q_skip ?_
    | refine q_seq_ret ?_
    | (refine q_box_agg rfl fun k hk => ?_)
    | (refine q_box_p rfl fun k hk => ?_)
    | (refine q_box_sl rfl fun k hk => ?_)
    | (refine q_box_fn rfl fun k hk => ?_)
    | refine q_mov_ptr rfl ?_
    | refine q_mov_ref rfl ?_
    | refine q_mov_sl rfl ?_
    | refine q_mov_fn rfl ?_
    | refine q_load1_ref rfl rfl ?_
    | refine q_loadA_ref rfl (Nat.le_of_ble_eq_true rfl) (by first | (simp only [List.take_zero, List.take_succ_cons, List.take_nil, List.drop_zero, List.drop_succ_cons, List.drop_nil, List.nil_append, List.cons_append, List.append_nil, List.map_cons, List.map_nil, List.replicate_succ, List.replicate_zero, List.flatten_cons, List.flatten_nil, Nat.zero_add, Nat.reduceAdd, chunk]; rfl) | rfl) ?_
    | refine q_load1 rfl (by repeat (first | exact get_same | refine get_other (by omega) ?_)) rfl ?_
    | refine q_loadA rfl (by repeat (first | exact get_same | refine get_other (by omega) ?_)) (Nat.le_of_ble_eq_true rfl) (by first | (simp only [List.take_zero, List.take_succ_cons, List.take_nil, List.drop_zero, List.drop_succ_cons, List.drop_nil, List.nil_append, List.cons_append, List.append_nil, List.map_cons, List.map_nil, List.replicate_succ, List.replicate_zero, List.flatten_cons, List.flatten_nil, Nat.zero_add, Nat.reduceAdd, chunk]; rfl) | rfl) ?_
    | refine q_iadrA rfl rfl (by omega) (by omega) rfl ?_
    | refine q_mov_tup rfl ?_
    )
  all_goals (refine q_fin_bool hwf rfl ?_ ?_ ?_; (focus (rfl)); (focus (first | trivial | (simp only [keysP, and_true]; omega) | (repeat' (first | exact trivial | refine ⟨by omega, ?_⟩ | exact keys_vecB (fun k hk => by have := htk k hk; omega) trivial)))); omega)
end Go.Proofs.Ytakjakmhecfmiaa

