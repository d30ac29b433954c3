/- CONTRACTS: the document's planes and marks. -/
import Derived.Test.YtinenepjloodcaaCwS5
set_option linter.unusedVariables false
set_option linter.unusedSimpArgs false
set_option maxHeartbeats 4000000
set_option maxRecDepth 20000
namespace Go.Proofs.Ytinenepjloodcaa
open Go.Cw
attribute [local irreducible] aops awp seqQ blockQ seqC loopQ endQ getB

theorem spec179 (S : St) (ax ay bx by_ : Int) (ha : rightP ⟨ax, ay⟩ = true) (hb : rightP ⟨bx, by_⟩ = true) : ASpec Try.prog 55 [.agg [vi ax, vi ay], .agg [vi bx, vi by_]] S (vi (ax * by_ - ay * bx)) S := by
  have qa := rightP_b ha
  have qb := rightP_b hb
  refine q_fun hmix c179 rfl (Nat.le_of_ble_eq_true rfl) fun hwf hu => ?_
  repeat' (first
    | (refine i_ops ?_; first
      | (refine i_op ?_; first
        | (refine i_mov ?_; first | refine q_mov_p rfl ?_ | refine q_mov_agg rfl ?_ | refine q_mov_ptr rfl ?_ | refine q_mov_ref rfl ?_ | refine q_mov_sl rfl ?_ | refine q_mov_fn rfl ?_ | refine q_mov_out rfl ?_ | refine q_mov_tup rfl ?_)
        | (refine i_load1 ?_; first | (apply q_load1_ref; (focus exact rfl); (focus exact rfl)) | (apply q_load1; (focus exact rfl); (focus (repeat (first | exact get_same | refine get_other (by omega) ?_))); (focus exact rfl)))
        | (refine i_fadr ?_; first | refine q_fadr rfl rfl ?_ | refine q_fadr_ref rfl rfl ?_)
        | (refine i_box ?_; first | (refine q_box_agg rfl fun k hk => ?_) | (refine q_box_p rfl fun k hk => ?_) | (refine q_box_sl rfl fun k hk => ?_) | (refine q_box_fn rfl fun k hk => ?_))
        | (refine i_arith _ ?_; first
          | (refine i_arith .sub ?_; first | (apply q_sub; (focus exact rfl); (focus exact rfl); (focus exact wrap64 (by omega))))
          | (refine i_arith .mul ?_; first | (apply q_mul; (focus exact rfl); (focus exact rfl); (focus exact wrap64 (by omega))) | (refine q_mul31 rfl rfl (by omega) (by omega) (fun hm1 hm2 => ?_))))))
    | refine q_nil ?_
    | (refine i_awp ?_; first | refine q_seq ?_ | (refine q_reg fun n' hn' => ?_; simp only [List.length_cons, List.length_nil, Nat.zero_add, Nat.reduceAdd] at hn') | refine q_ret ?_)
    | refine q_normal ?_
    | refine q_seq_ret ?_
    )
  all_goals (refine q_fin_int hwf rfl ?_ ?_ ?_; (focus (rfl)); (focus (first | trivial | (simp only [keysP, and_true]; omega) | (repeat' (first | exact trivial | refine ⟨by omega, ?_⟩ | refine keys_vecB (fun k hk => by have := htk k hk; omega) ?_)))); omega)

theorem spec176 (S : St) (x y : Int) : ASpec Try.prog 52 [.agg [vi x, vi y]] S (vb (rightP ⟨x, y⟩)) S := by
  refine q_fun hmix c176 rfl (Nat.le_of_ble_eq_true rfl) fun hwf hu => ?_
  repeat' (first
    | (refine i_ops ?_; first
      | (refine i_op ?_; first
        | (refine i_mov ?_; first | refine q_mov_p rfl ?_ | refine q_mov_agg rfl ?_ | refine q_mov_ptr rfl ?_ | refine q_mov_ref rfl ?_ | refine q_mov_sl rfl ?_ | refine q_mov_fn rfl ?_ | refine q_mov_out rfl ?_ | refine q_mov_tup rfl ?_)
        | (refine i_load1 ?_; first | (apply q_load1_ref; (focus exact rfl); (focus exact rfl)) | (apply q_load1; (focus exact rfl); (focus (repeat (first | exact get_same | refine get_other (by omega) ?_))); (focus exact rfl)))
        | (refine i_fadr ?_; first | refine q_fadr rfl rfl ?_ | refine q_fadr_ref rfl rfl ?_)
        | (refine i_pick ?_; first | refine q_pick_t rfl ?_ | refine q_pick_f rfl ?_)
        | (refine i_box ?_; first | (refine q_box_agg rfl fun k hk => ?_) | (refine q_box_p rfl fun k hk => ?_) | (refine q_box_sl rfl fun k hk => ?_) | (refine q_box_fn rfl fun k hk => ?_))
        | (refine i_arith _ ?_; first
          | (refine i_arith .leq ?_; first | refine q_leq rfl rfl (fun h => ?_) (fun h => ?_))
          | (refine i_arith .geq ?_; first | refine q_geq rfl rfl (fun h => ?_) (fun h => ?_))))
      | (refine i_guard ?_; first | refine q_on rfl ?_ | refine q_off rfl rfl ?_ | refine q_off_tup rfl ?_))
    | refine q_nil ?_
    | (refine i_awp ?_; first | refine q_seq ?_ | (refine q_reg fun n' hn' => ?_; simp only [List.length_cons, List.length_nil, Nat.zero_add, Nat.reduceAdd] at hn') | refine q_ret ?_)
    | refine q_normal ?_
    | refine q_seq_ret ?_
    )
  all_goals (refine q_fin_bool hwf rfl ?_ ?_ ?_; (focus (simp [rightP]; omega)); (focus (first | trivial | (simp only [keysP, and_true]; omega) | (repeat' (first | exact trivial | refine ⟨by omega, ?_⟩ | refine keys_vecB (fun k hk => by have := htk k hk; omega) ?_)))); omega)

theorem det_sum (ox oy ax ay bx by_ : Int) : ox * ay - oy * ax + (ax * by_ - ay * bx) + (bx * oy - by_ * ox) = (ax - ox) * (by_ - oy) - (ay - oy) * (bx - ox) := by
  simp only [Int.sub_mul, Int.mul_sub]
  have := Int.mul_comm bx oy
  have := Int.mul_comm by_ ox
  have := Int.mul_comm ay ox
  have := Int.mul_comm ax oy
  have := Int.mul_comm ox oy
  omega
theorem mul_bd {a b : Int} (ha : -536870912 ≤ a ∧ a ≤ 536870912) (hb : -536870912 ≤ b ∧ b ≤ 536870912) : -288230376151711744 ≤ a * b ∧ a * b ≤ 288230376151711744 := by
  have h1 : a.natAbs ≤ 536870912 := by omega
  have h2 : b.natAbs ≤ 536870912 := by omega
  have h3 := Nat.mul_le_mul h1 h2
  rw [← Int.natAbs_mul] at h3
  omega
theorem spec113 (S : St) (ox oy ax ay bx by_ : Int) : ASpec Try.prog 43 [.agg [vi ox, vi oy], .agg [vi ax, vi ay], .agg [vi bx, vi by_]] S (vi (cross ⟨ox, oy⟩ ⟨ax, ay⟩ ⟨bx, by_⟩)) S := by
  refine q_fun hmix c113 rfl (Nat.le_of_ble_eq_true rfl) fun hwf hu => ?_
  repeat' (first
    | (refine i_ops ?_; first
      | (refine i_call 52 ?_; (refine q_call_b (fun S => spec176 S _ _) (fun hr => ?_) (fun hr => ?_); any_goals (have hq := rightP_b hr)))
      | (refine i_call 55 ?_; (refine q_call (fun S => ASpec.fg (spec179 S _ _ _ _ (by assumption) (by assumption))) ?_; have hm1 := mul_bd (a := ox) (b := ay) (by omega) (by omega); have hm2 := mul_bd (a := oy) (b := ax) (by omega) (by omega); have hm3 := mul_bd (a := ax) (b := by_) (by omega) (by omega); have hm4 := mul_bd (a := ay) (b := bx) (by omega) (by omega); have hm5 := mul_bd (a := bx) (b := oy) (by omega) (by omega); have hm6 := mul_bd (a := by_) (b := ox) (by omega) (by omega)))
      | (refine i_op ?_; first
        | (refine i_mov ?_; first | refine q_mov_p rfl ?_ | refine q_mov_agg rfl ?_ | refine q_mov_ptr rfl ?_ | refine q_mov_ref rfl ?_ | refine q_mov_sl rfl ?_ | refine q_mov_fn rfl ?_ | refine q_mov_out rfl ?_ | refine q_mov_tup rfl ?_)
        | (refine i_loadA ?_; first | (apply q_loadA_ref; (focus exact rfl); (focus exact Nat.le_of_ble_eq_true rfl); (focus (first | (simp only [List.take_zero, List.take_succ_cons, List.take_nil, List.drop_zero, List.drop_succ_cons, List.drop_nil, List.nil_append, List.cons_append, List.append_nil, List.map_cons, List.map_nil, List.replicate_succ, List.replicate_zero, List.flatten_cons, List.flatten_nil, Nat.zero_add, Nat.reduceAdd, chunk]; rfl) | rfl))) | (apply q_loadA; (focus exact rfl); (focus (repeat (first | exact get_same | refine get_other (by omega) ?_))); (focus exact Nat.le_of_ble_eq_true rfl); (focus (first | (simp only [List.take_zero, List.take_succ_cons, List.take_nil, List.drop_zero, List.drop_succ_cons, List.drop_nil, List.nil_append, List.cons_append, List.append_nil, List.map_cons, List.map_nil, List.replicate_succ, List.replicate_zero, List.flatten_cons, List.flatten_nil, Nat.zero_add, Nat.reduceAdd, chunk]; rfl) | rfl))))
        | (refine i_not ?_; first | refine q_not rfl rfl ?_)
        | (refine i_pick ?_; first | refine q_pick_t rfl ?_ | refine q_pick_f rfl ?_)
        | (refine i_box ?_; first | (refine q_box_agg rfl fun k hk => ?_) | (refine q_box_p rfl fun k hk => ?_) | (refine q_box_sl rfl fun k hk => ?_) | (refine q_box_fn rfl fun k hk => ?_))
        | (refine i_arith _ ?_; first
          | (refine i_arith .add ?_; first | (apply q_add; (focus exact rfl); (focus exact rfl); (focus exact wrap64 (by omega))))))
      | (refine i_guard ?_; first | refine q_on rfl ?_ | refine q_off rfl rfl ?_ | refine q_off_tup rfl ?_))
    | (apply q_nil_drawn; (focus (repeat' (first | exact trivial | refine sep1 rfl rfl (by omega) ?_))))
    | refine q_nil ?_
    | (refine i_awp ?_; first | refine q_seq ?_ | (refine q_reg fun n' hn' => ?_; simp only [List.length_cons, List.length_nil, Nat.zero_add, Nat.reduceAdd] at hn') | (refine q_drawn fun n' hn' => ?_; simp only [List.length_cons, List.length_nil, Nat.zero_add, Nat.reduceAdd] at hn') | refine q_cond_t rfl ?_ | refine q_cond_f rfl ?_ | refine q_ret ?_ | refine q_skip ?_)
    | refine q_normal ?_
    | refine q_seq_ret ?_
    )
  all_goals first
    | (refine q_fin_int hwf rfl ?_ ?_ ?_; (focus (simp [cross, *]; done)); (focus (first | trivial | (simp only [keysP, and_true]; omega) | (repeat' (first | exact trivial | refine ⟨by omega, ?_⟩ | refine keys_vecB (fun k hk => by have := htk k hk; omega) ?_)))); omega)
    | (refine q_fin_int hwf rfl ?_ ?_ ?_; (focus (simp only [cross, det, *, Bool.and_self, if_true]; exact det_sum _ _ _ _ _ _)); (focus (first | trivial | (simp only [keysP, and_true]; omega) | (repeat' (first | exact trivial | refine ⟨by omega, ?_⟩ | refine keys_vecB (fun k hk => by have := htk k hk; omega) ?_)))); omega)

theorem spec217 (S : St) (n : Int) : ASpec Try.prog 57 [vi n] S (vi (cmpI n 0)) S := by
  refine q_fun hmix c217 rfl (Nat.le_of_ble_eq_true rfl) fun hwf hu => ?_
  repeat' (first
    | (refine i_ops ?_; first
      | (refine i_op ?_; first
        | (refine i_mov ?_; first | refine q_mov_p rfl ?_ | refine q_mov_agg rfl ?_ | refine q_mov_ptr rfl ?_ | refine q_mov_ref rfl ?_ | refine q_mov_sl rfl ?_ | refine q_mov_fn rfl ?_ | refine q_mov_out rfl ?_ | refine q_mov_tup rfl ?_)
        | (refine i_arith _ ?_; first
          | (refine i_arith .lss ?_; first | refine q_lss rfl rfl (fun h => ?_) (fun h => ?_))
          | (refine i_arith .gtr ?_; first | refine q_gtr rfl rfl (fun h => ?_) (fun h => ?_)))))
    | refine q_nil ?_
    | (refine i_awp ?_; first | refine q_seq ?_ | (refine q_reg fun n' hn' => ?_; simp only [List.length_cons, List.length_nil, Nat.zero_add, Nat.reduceAdd] at hn') | refine q_cond_t rfl ?_ | refine q_cond_f rfl ?_ | refine q_ret ?_ | refine q_skip ?_)
    | refine q_normal ?_
    | refine q_seq_ret ?_
    )
  all_goals (refine q_fin_int hwf rfl ?_ ?_ ?_; (focus (simp only [cmpI]; split <;> (try split) <;> omega)); (focus (first | trivial | (simp only [keysP, and_true]; omega) | (repeat' (first | exact trivial | refine ⟨by omega, ?_⟩ | refine keys_vecB (fun k hk => by have := htk k hk; omega) ?_)))); omega)

def sideP (o p q : Pt) : Int := if q.y < p.y then turn q p o else turn p q o
theorem spec172 (S : St) (ox oy px py qx qy : Int) : ASpec Try.prog 48 [.agg [vi ox, vi oy], .agg [vi px, vi py], .agg [vi qx, vi qy]] S (vi (sideP ⟨ox, oy⟩ ⟨px, py⟩ ⟨qx, qy⟩)) S := by
  refine q_fun hmix c172 rfl (Nat.le_of_ble_eq_true rfl) fun hwf hu => ?_
  repeat' (first
    | (refine i_ops ?_; first
      | (refine i_call 43 ?_; refine q_call (fun S => spec113 S _ _ _ _ _ _) ?_)
      | (refine i_call 57 ?_; refine q_call (fun S => spec217 S _) ?_)
      | (refine i_op ?_; first
        | (refine i_mov ?_; first | refine q_mov_p rfl ?_ | refine q_mov_agg rfl ?_ | refine q_mov_ptr rfl ?_ | refine q_mov_ref rfl ?_ | refine q_mov_sl rfl ?_ | refine q_mov_fn rfl ?_ | refine q_mov_out rfl ?_ | refine q_mov_tup rfl ?_)
        | (refine i_load1 ?_; first | (apply q_load1_ref; (focus exact rfl); (focus exact rfl)) | (apply q_load1; (focus exact rfl); (focus (repeat (first | exact get_same | refine get_other (by omega) ?_))); (focus exact rfl)))
        | (refine i_loadA ?_; first | (apply q_loadA_ref; (focus exact rfl); (focus exact Nat.le_of_ble_eq_true rfl); (focus (first | (simp only [List.take_zero, List.take_succ_cons, List.take_nil, List.drop_zero, List.drop_succ_cons, List.drop_nil, List.nil_append, List.cons_append, List.append_nil, List.map_cons, List.map_nil, List.replicate_succ, List.replicate_zero, List.flatten_cons, List.flatten_nil, Nat.zero_add, Nat.reduceAdd, chunk]; rfl) | rfl))) | (apply q_loadA; (focus exact rfl); (focus (repeat (first | exact get_same | refine get_other (by omega) ?_))); (focus exact Nat.le_of_ble_eq_true rfl); (focus (first | (simp only [List.take_zero, List.take_succ_cons, List.take_nil, List.drop_zero, List.drop_succ_cons, List.drop_nil, List.nil_append, List.cons_append, List.append_nil, List.map_cons, List.map_nil, List.replicate_succ, List.replicate_zero, List.flatten_cons, List.flatten_nil, Nat.zero_add, Nat.reduceAdd, chunk]; rfl) | rfl))))
        | (refine i_fadr ?_; first | refine q_fadr rfl rfl ?_ | refine q_fadr_ref rfl rfl ?_)
        | (refine i_box ?_; first | (refine q_box_agg rfl fun k hk => ?_) | (refine q_box_p rfl fun k hk => ?_) | (refine q_box_sl rfl fun k hk => ?_) | (refine q_box_fn rfl fun k hk => ?_))
        | (refine i_arith _ ?_; first
          | (refine i_arith .gtr ?_; first | refine q_gtr rfl rfl (fun h => ?_) (fun h => ?_)))))
    | refine q_nil ?_
    | (refine i_awp ?_; first | refine q_seq ?_ | (refine q_reg fun n' hn' => ?_; simp only [List.length_cons, List.length_nil, Nat.zero_add, Nat.reduceAdd] at hn') | refine q_cond_t rfl ?_ | refine q_cond_f rfl ?_ | refine q_ret ?_ | refine q_skip ?_)
    | refine q_normal ?_
    | refine q_seq_ret ?_
    )
  · (refine q_fin_int hwf rfl ?_ ?_ ?_; (focus (rw [sideP, if_pos h]; rfl)); (focus (first | trivial | (simp only [keysP, and_true]; omega) | (repeat' (first | exact trivial | refine ⟨by omega, ?_⟩ | refine keys_vecB (fun k hk => by have := htk k hk; omega) ?_)))); omega)
  · (refine q_fin_int hwf rfl ?_ ?_ ?_; (focus (rw [sideP, if_neg (show ¬ qy < py by omega)]; rfl)); (focus (first | trivial | (simp only [keysP, and_true]; omega) | (repeat' (first | exact trivial | refine ⟨by omega, ?_⟩ | refine keys_vecB (fun k hk => by have := htk k hk; omega) ?_)))); omega)

theorem spec100 (S : St) (e : Lk) (h1 : -134217728 ≤ e.px ∧ e.px ≤ 134217728) (h2 : -134217728 ≤ e.py ∧ e.py ≤ 134217728) (h3 : -134217728 ≤ e.qx ∧ e.qx ≤ 134217728) (h4 : -134217728 ≤ e.qy ∧ e.qy ≤ 134217728) :
    ASpec Try.prog 29 [.agg (e.pv.map .p)] S (.tup [.agg [vi (2 * e.px), vi (2 * e.py)], .agg [vi (2 * e.qx), vi (2 * e.qy)]]) S := by
  refine q_fun hmix c100 rfl (Nat.le_of_ble_eq_true rfl) fun hwf hu => ?_
  repeat' (first
    | (refine i_ops ?_; first
      | (refine i_op ?_; first
        | (refine i_load1 ?_; first | (apply q_load1_ref; (focus exact rfl); (focus exact rfl)) | (apply q_load1; (focus exact rfl); (focus (repeat (first | exact get_same | refine get_other (by omega) ?_))); (focus exact rfl)))
        | (refine i_store ?_; first | (apply q_store_agg; (focus exact rfl); (focus (repeat (first | exact get_same | refine get_other (by omega) ?_))); (focus exact rfl); (focus exact rfl); (focus exact Nat.le_of_ble_eq_true rfl); (focus (first | (simp only [List.take_zero, List.take_succ_cons, List.take_nil, List.drop_zero, List.drop_succ_cons, List.drop_nil, List.nil_append, List.cons_append, List.append_nil, List.map_cons, List.map_nil, List.replicate_succ, List.replicate_zero, List.flatten_cons, List.flatten_nil, Nat.zero_add, Nat.reduceAdd, chunk]; rfl) | rfl))) | (apply q_store_p; (focus exact rfl); (focus (repeat (first | exact get_same | refine get_other (by omega) ?_))); (focus exact rfl); (focus exact Nat.le_of_ble_eq_true rfl); (focus (first | (simp only [List.take_zero, List.take_succ_cons, List.take_nil, List.drop_zero, List.drop_succ_cons, List.drop_nil, List.nil_append, List.cons_append, List.append_nil, List.map_cons, List.map_nil, List.replicate_succ, List.replicate_zero, List.flatten_cons, List.flatten_nil, Nat.zero_add, Nat.reduceAdd, chunk]; rfl) | rfl))) | (apply q_store_sl; (focus exact rfl); (focus (repeat (first | exact get_same | refine get_other (by omega) ?_))); (focus exact rfl); (focus exact Nat.le_of_ble_eq_true rfl); (focus (first | (simp only [List.take_zero, List.take_succ_cons, List.take_nil, List.drop_zero, List.drop_succ_cons, List.drop_nil, List.nil_append, List.cons_append, List.append_nil, List.map_cons, List.map_nil, List.replicate_succ, List.replicate_zero, List.flatten_cons, List.flatten_nil, Nat.zero_add, Nat.reduceAdd, chunk]; rfl) | rfl))) | (apply q_store_fn; (focus exact rfl); (focus (repeat (first | exact get_same | refine get_other (by omega) ?_))); (focus exact rfl); (focus exact Nat.le_of_ble_eq_true rfl); (focus (first | (simp only [List.take_zero, List.take_succ_cons, List.take_nil, List.drop_zero, List.drop_succ_cons, List.drop_nil, List.nil_append, List.cons_append, List.append_nil, List.map_cons, List.map_nil, List.replicate_succ, List.replicate_zero, List.flatten_cons, List.flatten_nil, Nat.zero_add, Nat.reduceAdd, chunk]; rfl) | rfl))))
        | (refine i_fadr ?_; first | refine q_fadr rfl rfl ?_ | refine q_fadr_ref rfl rfl ?_)
        | (refine i_alloc ?_; first | (refine q_alloc fun k hk => ?_))
        | (refine i_box ?_; first | (refine q_box_agg rfl fun k hk => ?_) | (refine q_box_p rfl fun k hk => ?_) | (refine q_box_sl rfl fun k hk => ?_) | (refine q_box_fn rfl fun k hk => ?_))
        | (refine i_build ?_; first | (apply q_build; (focus (repeat' (first | exact fill_nil | (apply fill_p rfl (Nat.le_of_ble_eq_true rfl); (focus (first | (simp only [List.take_zero, List.take_succ_cons, List.take_nil, List.drop_zero, List.drop_succ_cons, List.drop_nil, List.nil_append, List.cons_append, List.append_nil, List.map_cons, List.map_nil, List.replicate_succ, List.replicate_zero, List.flatten_cons, List.flatten_nil, Nat.zero_add, Nat.reduceAdd, chunk]; rfl) | rfl))) | (apply fill_agg; (focus rfl); (focus rfl); (focus exact Nat.le_of_ble_eq_true rfl); (focus (first | (simp only [List.take_zero, List.take_succ_cons, List.take_nil, List.drop_zero, List.drop_succ_cons, List.drop_nil, List.nil_append, List.cons_append, List.append_nil, List.map_cons, List.map_nil, List.replicate_succ, List.replicate_zero, List.flatten_cons, List.flatten_nil, Nat.zero_add, Nat.reduceAdd, chunk]; rfl) | rfl))) | (apply fill_sl rfl (Nat.le_of_ble_eq_true rfl); (focus (first | (simp only [List.take_zero, List.take_succ_cons, List.take_nil, List.drop_zero, List.drop_succ_cons, List.drop_nil, List.nil_append, List.cons_append, List.append_nil, List.map_cons, List.map_nil, List.replicate_succ, List.replicate_zero, List.flatten_cons, List.flatten_nil, Nat.zero_add, Nat.reduceAdd, chunk]; rfl) | rfl))) | (apply fill_fn rfl (Nat.le_of_ble_eq_true rfl); (focus (first | (simp only [List.take_zero, List.take_succ_cons, List.take_nil, List.drop_zero, List.drop_succ_cons, List.drop_nil, List.nil_append, List.cons_append, List.append_nil, List.map_cons, List.map_nil, List.replicate_succ, List.replicate_zero, List.flatten_cons, List.flatten_nil, Nat.zero_add, Nat.reduceAdd, chunk]; rfl) | rfl))) | (apply fill_ptr rfl (Nat.le_of_ble_eq_true rfl); (focus (first | (simp only [List.take_zero, List.take_succ_cons, List.take_nil, List.drop_zero, List.drop_succ_cons, List.drop_nil, List.nil_append, List.cons_append, List.append_nil, List.map_cons, List.map_nil, List.replicate_succ, List.replicate_zero, List.flatten_cons, List.flatten_nil, Nat.zero_add, Nat.reduceAdd, chunk]; rfl) | rfl))))))))
        | (refine i_arith _ ?_; first
          | (refine i_arith .mul ?_; first | (apply q_mul; (focus exact rfl); (focus exact rfl); (focus exact wrap64 (by omega))) | (refine q_mul31 rfl rfl (by omega) (by omega) (fun hm1 hm2 => ?_))))))
    | (apply q_nil_drawn; (focus (repeat' (first | exact trivial | refine sep1 rfl rfl (by omega) ?_))))
    | refine q_nil ?_
    | (refine i_awp ?_; first | refine q_seq ?_ | (refine q_reg fun n' hn' => ?_; simp only [List.length_cons, List.length_nil, Nat.zero_add, Nat.reduceAdd] at hn') | (refine q_drawn fun n' hn' => ?_; simp only [List.length_cons, List.length_nil, Nat.zero_add, Nat.reduceAdd] at hn') | refine q_ret ?_)
    | refine q_normal ?_
    | refine q_seq_ret ?_
    )
  all_goals (refine q_fin hwf (res_cons (res_cellA rfl (by repeat (first | exact get_same | refine get_other (by omega) ?_)) (Nat.le_of_ble_eq_true rfl) (by first | (simp only [List.take_zero, List.take_succ_cons, List.take_nil, List.drop_zero, List.drop_succ_cons, List.drop_nil, List.nil_append, List.cons_append, List.append_nil, List.map_cons, List.map_nil, List.replicate_succ, List.replicate_zero, List.flatten_cons, List.flatten_nil, Nat.zero_add, Nat.reduceAdd, chunk]; rfl) | rfl)) (res_cons (res_cellA rfl (by repeat (first | exact get_same | refine get_other (by omega) ?_)) (Nat.le_of_ble_eq_true rfl) (by first | (simp only [List.take_zero, List.take_succ_cons, List.take_nil, List.drop_zero, List.drop_succ_cons, List.drop_nil, List.nil_append, List.cons_append, List.append_nil, List.map_cons, List.map_nil, List.replicate_succ, List.replicate_zero, List.flatten_cons, List.flatten_nil, Nat.zero_add, Nat.reduceAdd, chunk]; rfl) | rfl)) res_nil)) ?_ ?_ ?_ ?_; (focus (rfl)); (focus (simp only [AV.under, AV.underL, Tok.under, and_self])); (focus (first | trivial | (simp only [keysP, and_true]; omega) | (repeat' (first | exact trivial | refine ⟨by omega, ?_⟩ | refine keys_vecB (fun k hk => by have := htk k hk; omega) ?_)))); omega)

def betw (n a b : Int) : Bool := decide (a ≤ n) && decide (n ≤ b) || decide (b ≤ n) && decide (n ≤ a)
theorem spec177 (S : St) (n a b : Int) : ASpec Try.prog 53 [vi n, vi a, vi b] S (vb (betw n a b)) S := by
  refine q_fun hmix c177 rfl (Nat.le_of_ble_eq_true rfl) fun hwf hu => ?_
  repeat' (first
    | (refine i_ops ?_; first
      | (refine i_op ?_; first
        | (refine i_mov ?_; first | refine q_mov_p rfl ?_ | refine q_mov_agg rfl ?_ | refine q_mov_ptr rfl ?_ | refine q_mov_ref rfl ?_ | refine q_mov_sl rfl ?_ | refine q_mov_fn rfl ?_ | refine q_mov_out rfl ?_ | refine q_mov_tup rfl ?_)
        | (refine i_pick ?_; first | refine q_pick_t rfl ?_ | refine q_pick_f rfl ?_)
        | (refine i_arith _ ?_; first
          | (refine i_arith .leq ?_; first | refine q_leq rfl rfl (fun h => ?_) (fun h => ?_))))
      | (refine i_guard ?_; first | refine q_on rfl ?_ | refine q_off rfl rfl ?_ | refine q_off_tup rfl ?_))
    | refine q_nil ?_
    | (refine i_awp ?_; first | refine q_seq ?_ | (refine q_reg fun n' hn' => ?_; simp only [List.length_cons, List.length_nil, Nat.zero_add, Nat.reduceAdd] at hn') | refine q_ret ?_)
    | refine q_normal ?_
    | refine q_seq_ret ?_
    )
  all_goals (refine q_fin_bool hwf rfl ?_ ?_ ?_; (focus (simp [betw]; omega)); (focus (first | trivial | (simp only [keysP, and_true]; omega) | (repeat' (first | exact trivial | refine ⟨by omega, ?_⟩ | refine keys_vecB (fun k hk => by have := htk k hk; omega) ?_)))); omega)

def onR (p a b : Pt) : Bool := rightP p && rightP a && rightP b && decide (cross a p b = 0) && betw p.x a.x b.x && betw p.y a.y b.y
theorem spec106 (S : St) (px py ax ay bx by_ : Int) : ASpec Try.prog 35 [.agg [vi px, vi py], .agg [vi ax, vi ay], .agg [vi bx, vi by_]] S (vb (onR ⟨px, py⟩ ⟨ax, ay⟩ ⟨bx, by_⟩)) S := by
  refine q_fun hmix c106 rfl (Nat.le_of_ble_eq_true rfl) fun hwf hu => ?_
  repeat' (first
    | (refine i_ops ?_; first
      | (refine i_call 52 ?_; refine q_call_b (fun S => spec176 S _ _) (fun hr => ?_) (fun hr => ?_))
      | (refine i_call 43 ?_; refine q_call (fun S => spec113 S _ _ _ _ _ _) ?_)
      | (refine i_call 53 ?_; refine q_call_b (fun S => spec177 S _ _ _) (fun hr => ?_) (fun hr => ?_))
      | (refine i_op ?_; first
        | (refine i_mov ?_; first | refine q_mov_p rfl ?_ | refine q_mov_agg rfl ?_ | refine q_mov_ptr rfl ?_ | refine q_mov_ref rfl ?_ | refine q_mov_sl rfl ?_ | refine q_mov_fn rfl ?_ | refine q_mov_out rfl ?_ | refine q_mov_tup rfl ?_)
        | (refine i_load1 ?_; first | (apply q_load1_ref; (focus exact rfl); (focus exact rfl)) | (apply q_load1; (focus exact rfl); (focus (repeat (first | exact get_same | refine get_other (by omega) ?_))); (focus exact rfl)))
        | (refine i_loadA ?_; first | (apply q_loadA_ref; (focus exact rfl); (focus exact Nat.le_of_ble_eq_true rfl); (focus (first | (simp only [List.take_zero, List.take_succ_cons, List.take_nil, List.drop_zero, List.drop_succ_cons, List.drop_nil, List.nil_append, List.cons_append, List.append_nil, List.map_cons, List.map_nil, List.replicate_succ, List.replicate_zero, List.flatten_cons, List.flatten_nil, Nat.zero_add, Nat.reduceAdd, chunk]; rfl) | rfl))) | (apply q_loadA; (focus exact rfl); (focus (repeat (first | exact get_same | refine get_other (by omega) ?_))); (focus exact Nat.le_of_ble_eq_true rfl); (focus (first | (simp only [List.take_zero, List.take_succ_cons, List.take_nil, List.drop_zero, List.drop_succ_cons, List.drop_nil, List.nil_append, List.cons_append, List.append_nil, List.map_cons, List.map_nil, List.replicate_succ, List.replicate_zero, List.flatten_cons, List.flatten_nil, Nat.zero_add, Nat.reduceAdd, chunk]; rfl) | rfl))))
        | (refine i_fadr ?_; first | refine q_fadr rfl rfl ?_ | refine q_fadr_ref rfl rfl ?_)
        | (refine i_pick ?_; first | refine q_pick_t rfl ?_ | refine q_pick_f rfl ?_)
        | (refine i_box ?_; first | (refine q_box_agg rfl fun k hk => ?_) | (refine q_box_p rfl fun k hk => ?_) | (refine q_box_sl rfl fun k hk => ?_) | (refine q_box_fn rfl fun k hk => ?_))
        | (refine i_arith _ ?_; first
          | (refine i_arith .eql ?_; first | refine q_eql rfl rfl (fun h => ?_) (fun h => ?_))))
      | (refine i_guard ?_; first | refine q_on rfl ?_ | refine q_off rfl rfl ?_ | refine q_off_tup rfl ?_))
    | refine q_nil ?_
    | (refine i_awp ?_; first | refine q_seq ?_ | (refine q_reg fun n' hn' => ?_; simp only [List.length_cons, List.length_nil, Nat.zero_add, Nat.reduceAdd] at hn') | refine q_ret ?_)
    | refine q_normal ?_
    | refine q_seq_ret ?_
    )
  all_goals (refine q_fin_bool hwf rfl ?_ ?_ ?_; (focus (simp [onR, *])); (focus (first | trivial | (simp only [keysP, and_true]; omega) | (repeat' (first | exact trivial | refine ⟨by omega, ?_⟩ | refine keys_vecB (fun k hk => by have := htk k hk; omega) ?_)))); omega)

theorem cross_swap (a b p : Pt) : cross b a p = - cross a b p := by
  simp only [cross, det]
  cases rightP a <;> cases rightP b <;> cases rightP p <;> simp [Int.sub_mul, Int.mul_sub]
  have := Int.mul_comm b.x a.y
  have := Int.mul_comm b.y a.x
  have := Int.mul_comm p.x a.y
  have := Int.mul_comm p.y a.x
  have := Int.mul_comm p.x b.y
  have := Int.mul_comm p.y b.x
  have := Int.mul_comm a.x a.y
  have := Int.mul_comm b.x b.y
  omega
theorem cross_turn (a b p : Pt) : cross a p b = - cross a b p := by
  simp only [cross, det]
  cases rightP a <;> cases rightP b <;> cases rightP p <;> simp [Int.sub_mul, Int.mul_sub]
  have := Int.mul_comm b.x a.y
  have := Int.mul_comm b.y a.x
  have := Int.mul_comm p.x a.y
  have := Int.mul_comm p.y a.x
  have := Int.mul_comm p.x b.y
  have := Int.mul_comm p.y b.x
  have := Int.mul_comm a.x a.y
  have := Int.mul_comm b.x b.y
  omega
theorem cmp_neg (n : Int) : cmpI (-n) 0 = - cmpI n 0 := by simp only [cmpI]; repeat' split <;> omega
theorem turn_swap (a b p : Pt) : turn b a p = - turn a b p := by simp only [turn, cross_swap a b p, cmp_neg]
theorem neg_zero_cmp (c : Int) : decide (-c = 0) = decide (cmpI c 0 = 0) := by
  have h : -c = 0 ↔ cmpI c 0 = 0 := by simp only [cmpI]; repeat' split <;> omega
  exact decide_eq_decide.2 h
theorem betw_eq (n a b : Int) : betw n a b = (decide (min a b ≤ n) && decide (n ≤ max a b)) := by
  rw [Bool.eq_iff_iff]
  simp only [betw, Bool.and_eq_true, Bool.or_eq_true, decide_eq_true_eq]
  omega
theorem onR_eq (p a b : Pt) : onR p a b = onP p a b := by
  simp only [onR, onP, cross_turn a b p, neg_zero_cmp, betw_eq, holdsB, Bool.and_assoc]
/-- The document's way to count by a ray is the program's. -/
theorem rgt_eq (o p q : Pt) : rgt o p q = if p.y = q.y ∨ o.y < min p.y q.y ∨ max p.y q.y ≤ o.y ∨ sideP o p q ≤ 0 then 0 else if p.y < q.y then 1 else -1 := by
  have h := turn_swap p q o
  simp only [rgt, sideP]
  repeat' split
  all_goals omega
end Go.Proofs.Ytinenepjloodcaa

