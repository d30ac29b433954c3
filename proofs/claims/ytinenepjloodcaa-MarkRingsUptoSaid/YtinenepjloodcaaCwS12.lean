/- CONTRACTS: the document's counts and marks. -/
import Derived.Test.YtinenepjloodcaaCwS11
set_option linter.unusedVariables false
set_option linter.unusedSimpArgs false
set_option maxHeartbeats 8000000
set_option maxRecDepth 20000
namespace Go.Proofs.Ytinenepjloodcaa
open Go.Cw
attribute [local irreducible] aops awp seqQ blockQ seqC loopQ endQ getB outV vecB

structure GC where
  i : Nat
  n : Nat
  na : Int
  nb : Int

theorem sgR_eq (x y : Int) (e : Lk) : sgR ⟨x, y⟩ e = if 2 * e.py = 2 * e.qy ∨ y < min (2 * e.py) (2 * e.qy) ∨ max (2 * e.py) (2 * e.qy) ≤ y ∨ sideP ⟨x, y⟩ ⟨2 * e.px, 2 * e.py⟩ ⟨2 * e.qx, 2 * e.qy⟩ ≤ 0 then 0 else if 2 * e.py < 2 * e.qy then 1 else -1 := rgt_eq _ _ _
theorem sgU_eq (x y : Int) (e : Lk) : sgU ⟨x, y⟩ e = if 2 * e.px ≤ x ∧ x < 2 * e.qx ∧ cross ⟨2 * e.px, 2 * e.py⟩ ⟨2 * e.qx, 2 * e.qy⟩ ⟨x, y⟩ < 0 then -1 else 0 := by
  simp only [sgU, upw, turn, cmpI, Lk.p2, Lk.q2]
  repeat' split
  all_goals omega

theorem hv0 {i but s v : Int} (h : i = but ∨ s = 0) : (if i ≠ but then s * v else 0) = 0 := by
  rcases h with h | h
  · rw [if_neg (by omega)]
  · rw [h, Int.zero_mul]; split <;> rfl
theorem hv1 {i but s v : Int} (h : i ≠ but ∧ s = 1) : (if i ≠ but then s * v else 0) = v := by rw [if_pos h.1, h.2, Int.one_mul]
theorem hvn {i but s v : Int} (h : i ≠ but ∧ s = -1) : (if i ≠ but then s * v else 0) = -v := by rw [if_pos h.1, h.2, Int.neg_one_mul]
theorem cnt_step {s f : Lk → Int} {but : Int} {l : List Lk} {i : Nat} {n v m : Int} (h : i < l.length) (hs : n + cnt s f but (l.drop i) i = m) (hv : (if (i : Int) ≠ but then s l[i] * f l[i] else 0) = v) : n + v + cnt s f but (l.drop (i + 1)) (i + 1) = m := by
  rw [← hs, drop_cons (i := i) h]; simp only [cnt]; rw [hv]; omega

theorem spec101 (S : St) (nl : Bool) (l : List Lk) (x y but : Int) (hl : rightL l = true) :
    ASpec Try.prog 30 [.p (.sl nl (l.map Lk.pv)), .agg [vi x, vi y], vi but] S (.agg [vi (cnt (sgR ⟨x, y⟩) Lk.a but l 0), vi (cnt (sgR ⟨x, y⟩) Lk.b but l 0)]) S := by
  have hbd := rightL_bd hl
  have hlen := (rightL_mem hl).1
  refine q_fun hmix c101 rfl (Nat.le_of_ble_eq_true rfl) fun hwf hu => ?_
  repeat' (first
    | (refine i_ops ?_; first
      | (refine i_op ?_; first
        | (refine i_mov ?_; first | refine q_mov_p rfl ?_ | refine q_mov_agg rfl ?_ | refine q_mov_ptr rfl ?_ | refine q_mov_ref rfl ?_ | refine q_mov_sl rfl ?_ | refine q_mov_fn rfl ?_ | refine q_mov_out rfl ?_ | refine q_mov_tup rfl ?_)
        | (refine i_load1 ?_; first | (apply q_load1_ref; (focus exact rfl); (focus exact rfl)) | (apply q_load1; (focus exact rfl); (focus (repeat (first | exact get_same | refine get_other (by omega) ?_))); (focus exact rfl)))
        | (refine i_loadA ?_; first | (apply q_loadA_ref; (focus exact rfl); (focus exact Nat.le_of_ble_eq_true rfl); (focus (first | (simp only [Lk.pv, List.take_zero, List.take_succ_cons, List.take_nil, List.drop_zero, List.drop_succ_cons, List.drop_nil, List.nil_append, List.cons_append, List.append_nil, List.map_cons, List.map_nil, List.replicate_succ, List.replicate_zero, List.flatten_cons, List.flatten_nil, Nat.zero_add, Nat.reduceAdd, chunk]; rfl) | rfl))) | (apply q_loadA; (focus exact rfl); (focus (repeat (first | exact get_same | refine get_other (by omega) ?_))); (focus exact Nat.le_of_ble_eq_true rfl); (focus (first | (simp only [Lk.pv, List.take_zero, List.take_succ_cons, List.take_nil, List.drop_zero, List.drop_succ_cons, List.drop_nil, List.nil_append, List.cons_append, List.append_nil, List.map_cons, List.map_nil, List.replicate_succ, List.replicate_zero, List.flatten_cons, List.flatten_nil, Nat.zero_add, Nat.reduceAdd, chunk]; rfl) | rfl))))
        | (refine i_store ?_; first | (apply q_store_agg; (focus exact rfl); (focus (repeat (first | exact get_same | refine get_other (by omega) ?_))); (focus exact rfl); (focus exact rfl); (focus exact Nat.le_of_ble_eq_true rfl); (focus (first | (simp only [Lk.pv, List.take_zero, List.take_succ_cons, List.take_nil, List.drop_zero, List.drop_succ_cons, List.drop_nil, List.nil_append, List.cons_append, List.append_nil, List.map_cons, List.map_nil, List.replicate_succ, List.replicate_zero, List.flatten_cons, List.flatten_nil, Nat.zero_add, Nat.reduceAdd, chunk]; rfl) | rfl))) | (apply q_store_p; (focus exact rfl); (focus (repeat (first | exact get_same | refine get_other (by omega) ?_))); (focus exact rfl); (focus exact Nat.le_of_ble_eq_true rfl); (focus (first | (simp only [Lk.pv, List.take_zero, List.take_succ_cons, List.take_nil, List.drop_zero, List.drop_succ_cons, List.drop_nil, List.nil_append, List.cons_append, List.append_nil, List.map_cons, List.map_nil, List.replicate_succ, List.replicate_zero, List.flatten_cons, List.flatten_nil, Nat.zero_add, Nat.reduceAdd, chunk]; rfl) | rfl))) | (apply q_store_sl; (focus exact rfl); (focus (repeat (first | exact get_same | refine get_other (by omega) ?_))); (focus exact rfl); (focus exact Nat.le_of_ble_eq_true rfl); (focus (first | (simp only [Lk.pv, List.take_zero, List.take_succ_cons, List.take_nil, List.drop_zero, List.drop_succ_cons, List.drop_nil, List.nil_append, List.cons_append, List.append_nil, List.map_cons, List.map_nil, List.replicate_succ, List.replicate_zero, List.flatten_cons, List.flatten_nil, Nat.zero_add, Nat.reduceAdd, chunk]; rfl) | rfl))) | (apply q_store_fn; (focus exact rfl); (focus (repeat (first | exact get_same | refine get_other (by omega) ?_))); (focus exact rfl); (focus exact Nat.le_of_ble_eq_true rfl); (focus (first | (simp only [Lk.pv, List.take_zero, List.take_succ_cons, List.take_nil, List.drop_zero, List.drop_succ_cons, List.drop_nil, List.nil_append, List.cons_append, List.append_nil, List.map_cons, List.map_nil, List.replicate_succ, List.replicate_zero, List.flatten_cons, List.flatten_nil, Nat.zero_add, Nat.reduceAdd, chunk]; rfl) | rfl))))
        | (refine i_fadr ?_; first | refine q_fadr rfl rfl ?_ | refine q_fadr_ref rfl rfl ?_)
        | (refine i_iadrS ?_; first | (apply q_iadrS_nat; (focus exact rfl); (focus exact rfl); (focus exact get_map (by omega)); (focus exact rfl)))
        | (refine i_iadrA ?_; first | refine q_iadrA rfl rfl (by omega) (by omega) rfl ?_)
        | (refine i_lenS ?_; first | refine q_lenS_map rfl ?_ | refine q_lenS rfl ?_)
        | (refine i_ext ?_; first | refine q_ext rfl rfl ?_)
        | (refine i_pick ?_; first | refine q_pick_t rfl ?_ | refine q_pick_f rfl ?_)
        | (refine i_minmax ?_; first | refine q_min2 rfl rfl ?_ | refine q_max2 rfl rfl ?_)
        | (refine i_arith _ ?_; first
          | (refine i_arith .add ?_; first | (apply q_add; (focus exact rfl); (focus exact rfl); (focus exact wrap64 (by omega))))
          | (refine i_arith .sub ?_; first | (apply q_sub; (focus exact rfl); (focus exact rfl); (focus exact wrap64 (by omega))))
          | (refine i_arith .lss ?_; first | refine q_lss rfl rfl (fun h => ?_) (fun h => ?_))
          | (refine i_arith .leq ?_; first | refine q_leq rfl rfl (fun h => ?_) (fun h => ?_))
          | (refine i_arith .gtr ?_; first | refine q_gtr rfl rfl (fun h => ?_) (fun h => ?_))
          | (refine i_arith .eql ?_; first | refine q_eql rfl rfl (fun h => ?_) (fun h => ?_))))
      | (refine i_guard ?_; first | refine q_on rfl ?_ | refine q_off rfl rfl ?_ | refine q_off_tup rfl ?_))
    | (apply q_nil_drawn; (focus (repeat' (first | exact trivial | refine sep1 rfl rfl (by omega) ?_))))
    | refine q_nil ?_
    | (refine i_awp ?_; first | refine q_seq ?_ | (refine q_reg fun n' hn' => ?_; simp only [List.length_cons, List.length_nil, Nat.zero_add, Nat.reduceAdd] at hn') | (refine q_drawn fun n' hn' => ?_; simp only [List.length_cons, List.length_nil, Nat.zero_add, Nat.reduceAdd] at hn') | refine q_cond_t rfl ?_ | refine q_cond_f rfl ?_ | refine q_block ?_ | refine q_exit ?_ | refine q_ret ?_ | refine q_skip ?_)
    | refine q_normal ?_
    | refine q_seq_exit ?_
    | refine q_loop_exit ?_
    | refine q_loop_ret ?_
    | refine q_seq_ret ?_
    | refine q_block_normal ?_
    | refine q_block_ret ?_
    | refine q_block_hit ?_
    | refine q_block_miss rfl ?_
    )
  refine q_box_agg rfl fun k4 hk4 => ?_
  refine q_alloc fun k6 hk6 => ?_
  repeat' (first
    | (refine i_ops ?_; first
      | (refine i_op ?_; first
        | (refine i_mov ?_; first | refine q_mov_p rfl ?_ | refine q_mov_agg rfl ?_ | refine q_mov_ptr rfl ?_ | refine q_mov_ref rfl ?_ | refine q_mov_sl rfl ?_ | refine q_mov_fn rfl ?_ | refine q_mov_out rfl ?_ | refine q_mov_tup rfl ?_)
        | (refine i_load1 ?_; first | (apply q_load1_ref; (focus exact rfl); (focus exact rfl)) | (apply q_load1; (focus exact rfl); (focus (repeat (first | exact get_same | refine get_other (by omega) ?_))); (focus exact rfl)))
        | (refine i_loadA ?_; first | (apply q_loadA_ref; (focus exact rfl); (focus exact Nat.le_of_ble_eq_true rfl); (focus (first | (simp only [Lk.pv, List.take_zero, List.take_succ_cons, List.take_nil, List.drop_zero, List.drop_succ_cons, List.drop_nil, List.nil_append, List.cons_append, List.append_nil, List.map_cons, List.map_nil, List.replicate_succ, List.replicate_zero, List.flatten_cons, List.flatten_nil, Nat.zero_add, Nat.reduceAdd, chunk]; rfl) | rfl))) | (apply q_loadA; (focus exact rfl); (focus (repeat (first | exact get_same | refine get_other (by omega) ?_))); (focus exact Nat.le_of_ble_eq_true rfl); (focus (first | (simp only [Lk.pv, List.take_zero, List.take_succ_cons, List.take_nil, List.drop_zero, List.drop_succ_cons, List.drop_nil, List.nil_append, List.cons_append, List.append_nil, List.map_cons, List.map_nil, List.replicate_succ, List.replicate_zero, List.flatten_cons, List.flatten_nil, Nat.zero_add, Nat.reduceAdd, chunk]; rfl) | rfl))))
        | (refine i_store ?_; first | (apply q_store_agg; (focus exact rfl); (focus (repeat (first | exact get_same | refine get_other (by omega) ?_))); (focus exact rfl); (focus exact rfl); (focus exact Nat.le_of_ble_eq_true rfl); (focus (first | (simp only [Lk.pv, List.take_zero, List.take_succ_cons, List.take_nil, List.drop_zero, List.drop_succ_cons, List.drop_nil, List.nil_append, List.cons_append, List.append_nil, List.map_cons, List.map_nil, List.replicate_succ, List.replicate_zero, List.flatten_cons, List.flatten_nil, Nat.zero_add, Nat.reduceAdd, chunk]; rfl) | rfl))) | (apply q_store_p; (focus exact rfl); (focus (repeat (first | exact get_same | refine get_other (by omega) ?_))); (focus exact rfl); (focus exact Nat.le_of_ble_eq_true rfl); (focus (first | (simp only [Lk.pv, List.take_zero, List.take_succ_cons, List.take_nil, List.drop_zero, List.drop_succ_cons, List.drop_nil, List.nil_append, List.cons_append, List.append_nil, List.map_cons, List.map_nil, List.replicate_succ, List.replicate_zero, List.flatten_cons, List.flatten_nil, Nat.zero_add, Nat.reduceAdd, chunk]; rfl) | rfl))) | (apply q_store_sl; (focus exact rfl); (focus (repeat (first | exact get_same | refine get_other (by omega) ?_))); (focus exact rfl); (focus exact Nat.le_of_ble_eq_true rfl); (focus (first | (simp only [Lk.pv, List.take_zero, List.take_succ_cons, List.take_nil, List.drop_zero, List.drop_succ_cons, List.drop_nil, List.nil_append, List.cons_append, List.append_nil, List.map_cons, List.map_nil, List.replicate_succ, List.replicate_zero, List.flatten_cons, List.flatten_nil, Nat.zero_add, Nat.reduceAdd, chunk]; rfl) | rfl))) | (apply q_store_fn; (focus exact rfl); (focus (repeat (first | exact get_same | refine get_other (by omega) ?_))); (focus exact rfl); (focus exact Nat.le_of_ble_eq_true rfl); (focus (first | (simp only [Lk.pv, List.take_zero, List.take_succ_cons, List.take_nil, List.drop_zero, List.drop_succ_cons, List.drop_nil, List.nil_append, List.cons_append, List.append_nil, List.map_cons, List.map_nil, List.replicate_succ, List.replicate_zero, List.flatten_cons, List.flatten_nil, Nat.zero_add, Nat.reduceAdd, chunk]; rfl) | rfl))))
        | (refine i_fadr ?_; first | refine q_fadr rfl rfl ?_ | refine q_fadr_ref rfl rfl ?_)
        | (refine i_iadrS ?_; first | (apply q_iadrS_nat; (focus exact rfl); (focus exact rfl); (focus exact get_map (by omega)); (focus exact rfl)))
        | (refine i_iadrA ?_; first | refine q_iadrA rfl rfl (by omega) (by omega) rfl ?_)
        | (refine i_lenS ?_; first | refine q_lenS_map rfl ?_ | refine q_lenS rfl ?_)
        | (refine i_ext ?_; first | refine q_ext rfl rfl ?_)
        | (refine i_pick ?_; first | refine q_pick_t rfl ?_ | refine q_pick_f rfl ?_)
        | (refine i_minmax ?_; first | refine q_min2 rfl rfl ?_ | refine q_max2 rfl rfl ?_)
        | (refine i_arith _ ?_; first
          | (refine i_arith .add ?_; first | (apply q_add; (focus exact rfl); (focus exact rfl); (focus exact wrap64 (by omega))))
          | (refine i_arith .sub ?_; first | (apply q_sub; (focus exact rfl); (focus exact rfl); (focus exact wrap64 (by omega))))
          | (refine i_arith .lss ?_; first | refine q_lss rfl rfl (fun h => ?_) (fun h => ?_))
          | (refine i_arith .leq ?_; first | refine q_leq rfl rfl (fun h => ?_) (fun h => ?_))
          | (refine i_arith .gtr ?_; first | refine q_gtr rfl rfl (fun h => ?_) (fun h => ?_))
          | (refine i_arith .eql ?_; first | refine q_eql rfl rfl (fun h => ?_) (fun h => ?_))))
      | (refine i_guard ?_; first | refine q_on rfl ?_ | refine q_off rfl rfl ?_ | refine q_off_tup rfl ?_))
    | (apply q_nil_drawn; (focus (repeat' (first | exact trivial | refine sep1 rfl rfl (by omega) ?_))))
    | refine q_nil ?_
    | (refine i_awp ?_; first | refine q_seq ?_ | (refine q_reg fun n' hn' => ?_; simp only [List.length_cons, List.length_nil, Nat.zero_add, Nat.reduceAdd] at hn') | (refine q_drawn fun n' hn' => ?_; simp only [List.length_cons, List.length_nil, Nat.zero_add, Nat.reduceAdd] at hn') | refine q_cond_t rfl ?_ | refine q_cond_f rfl ?_ | refine q_block ?_ | refine q_exit ?_ | refine q_ret ?_ | refine q_skip ?_)
    | refine q_normal ?_
    | refine q_seq_exit ?_
    | refine q_loop_exit ?_
    | refine q_loop_ret ?_
    | refine q_seq_ret ?_
    | refine q_block_normal ?_
    | refine q_block_ret ?_
    | refine q_block_hit ?_
    | refine q_block_miss rfl ?_
    )
  refine q_alloc fun k7 hk7 => ?_
  repeat' (first
    | (refine i_ops ?_; first
      | (refine i_op ?_; first
        | (refine i_mov ?_; first | refine q_mov_p rfl ?_ | refine q_mov_agg rfl ?_ | refine q_mov_ptr rfl ?_ | refine q_mov_ref rfl ?_ | refine q_mov_sl rfl ?_ | refine q_mov_fn rfl ?_ | refine q_mov_out rfl ?_ | refine q_mov_tup rfl ?_)
        | (refine i_load1 ?_; first | (apply q_load1_ref; (focus exact rfl); (focus exact rfl)) | (apply q_load1; (focus exact rfl); (focus (repeat (first | exact get_same | refine get_other (by omega) ?_))); (focus exact rfl)))
        | (refine i_loadA ?_; first | (apply q_loadA_ref; (focus exact rfl); (focus exact Nat.le_of_ble_eq_true rfl); (focus (first | (simp only [Lk.pv, List.take_zero, List.take_succ_cons, List.take_nil, List.drop_zero, List.drop_succ_cons, List.drop_nil, List.nil_append, List.cons_append, List.append_nil, List.map_cons, List.map_nil, List.replicate_succ, List.replicate_zero, List.flatten_cons, List.flatten_nil, Nat.zero_add, Nat.reduceAdd, chunk]; rfl) | rfl))) | (apply q_loadA; (focus exact rfl); (focus (repeat (first | exact get_same | refine get_other (by omega) ?_))); (focus exact Nat.le_of_ble_eq_true rfl); (focus (first | (simp only [Lk.pv, List.take_zero, List.take_succ_cons, List.take_nil, List.drop_zero, List.drop_succ_cons, List.drop_nil, List.nil_append, List.cons_append, List.append_nil, List.map_cons, List.map_nil, List.replicate_succ, List.replicate_zero, List.flatten_cons, List.flatten_nil, Nat.zero_add, Nat.reduceAdd, chunk]; rfl) | rfl))))
        | (refine i_store ?_; first | (apply q_store_agg; (focus exact rfl); (focus (repeat (first | exact get_same | refine get_other (by omega) ?_))); (focus exact rfl); (focus exact rfl); (focus exact Nat.le_of_ble_eq_true rfl); (focus (first | (simp only [Lk.pv, List.take_zero, List.take_succ_cons, List.take_nil, List.drop_zero, List.drop_succ_cons, List.drop_nil, List.nil_append, List.cons_append, List.append_nil, List.map_cons, List.map_nil, List.replicate_succ, List.replicate_zero, List.flatten_cons, List.flatten_nil, Nat.zero_add, Nat.reduceAdd, chunk]; rfl) | rfl))) | (apply q_store_p; (focus exact rfl); (focus (repeat (first | exact get_same | refine get_other (by omega) ?_))); (focus exact rfl); (focus exact Nat.le_of_ble_eq_true rfl); (focus (first | (simp only [Lk.pv, List.take_zero, List.take_succ_cons, List.take_nil, List.drop_zero, List.drop_succ_cons, List.drop_nil, List.nil_append, List.cons_append, List.append_nil, List.map_cons, List.map_nil, List.replicate_succ, List.replicate_zero, List.flatten_cons, List.flatten_nil, Nat.zero_add, Nat.reduceAdd, chunk]; rfl) | rfl))) | (apply q_store_sl; (focus exact rfl); (focus (repeat (first | exact get_same | refine get_other (by omega) ?_))); (focus exact rfl); (focus exact Nat.le_of_ble_eq_true rfl); (focus (first | (simp only [Lk.pv, List.take_zero, List.take_succ_cons, List.take_nil, List.drop_zero, List.drop_succ_cons, List.drop_nil, List.nil_append, List.cons_append, List.append_nil, List.map_cons, List.map_nil, List.replicate_succ, List.replicate_zero, List.flatten_cons, List.flatten_nil, Nat.zero_add, Nat.reduceAdd, chunk]; rfl) | rfl))) | (apply q_store_fn; (focus exact rfl); (focus (repeat (first | exact get_same | refine get_other (by omega) ?_))); (focus exact rfl); (focus exact Nat.le_of_ble_eq_true rfl); (focus (first | (simp only [Lk.pv, List.take_zero, List.take_succ_cons, List.take_nil, List.drop_zero, List.drop_succ_cons, List.drop_nil, List.nil_append, List.cons_append, List.append_nil, List.map_cons, List.map_nil, List.replicate_succ, List.replicate_zero, List.flatten_cons, List.flatten_nil, Nat.zero_add, Nat.reduceAdd, chunk]; rfl) | rfl))))
        | (refine i_fadr ?_; first | refine q_fadr rfl rfl ?_ | refine q_fadr_ref rfl rfl ?_)
        | (refine i_iadrS ?_; first | (apply q_iadrS_nat; (focus exact rfl); (focus exact rfl); (focus exact get_map (by omega)); (focus exact rfl)))
        | (refine i_iadrA ?_; first | refine q_iadrA rfl rfl (by omega) (by omega) rfl ?_)
        | (refine i_lenS ?_; first | refine q_lenS_map rfl ?_ | refine q_lenS rfl ?_)
        | (refine i_ext ?_; first | refine q_ext rfl rfl ?_)
        | (refine i_pick ?_; first | refine q_pick_t rfl ?_ | refine q_pick_f rfl ?_)
        | (refine i_alloc ?_; first | (refine q_alloc fun k hk => ?_))
        | (refine i_box ?_; first | (refine q_box_agg rfl fun k hk => ?_) | (refine q_box_p rfl fun k hk => ?_) | (refine q_box_sl rfl fun k hk => ?_) | (refine q_box_fn rfl fun k hk => ?_))
        | (refine i_minmax ?_; first | refine q_min2 rfl rfl ?_ | refine q_max2 rfl rfl ?_)
        | (refine i_arith _ ?_; first
          | (refine i_arith .add ?_; first | (apply q_add; (focus exact rfl); (focus exact rfl); (focus exact wrap64 (by omega))))
          | (refine i_arith .sub ?_; first | (apply q_sub; (focus exact rfl); (focus exact rfl); (focus exact wrap64 (by omega))))
          | (refine i_arith .lss ?_; first | refine q_lss rfl rfl (fun h => ?_) (fun h => ?_))
          | (refine i_arith .leq ?_; first | refine q_leq rfl rfl (fun h => ?_) (fun h => ?_))
          | (refine i_arith .gtr ?_; first | refine q_gtr rfl rfl (fun h => ?_) (fun h => ?_))
          | (refine i_arith .eql ?_; first | refine q_eql rfl rfl (fun h => ?_) (fun h => ?_))))
      | (refine i_guard ?_; first | refine q_on rfl ?_ | refine q_off rfl rfl ?_ | refine q_off_tup rfl ?_))
    | (apply q_nil_drawn; (focus (repeat' (first | exact trivial | refine sep1 rfl rfl (by omega) ?_))))
    | refine q_nil ?_
    | (refine i_awp ?_; first | refine q_seq ?_ | (refine q_reg fun n' hn' => ?_; simp only [List.length_cons, List.length_nil, Nat.zero_add, Nat.reduceAdd] at hn') | (refine q_drawn fun n' hn' => ?_; simp only [List.length_cons, List.length_nil, Nat.zero_add, Nat.reduceAdd] at hn') | refine q_cond_t rfl ?_ | refine q_cond_f rfl ?_ | refine q_block ?_ | refine q_exit ?_ | refine q_ret ?_ | refine q_skip ?_)
    | refine q_normal ?_
    | refine q_seq_exit ?_
    | refine q_loop_exit ?_
    | refine q_loop_ret ?_
    | refine q_seq_ret ?_
    | refine q_block_normal ?_
    | refine q_block_ret ?_
    | refine q_block_hit ?_
    | refine q_block_miss rfl ?_
    )
  refine q_loop (γ := GC) (fun g => [(0, .p (.sl nl (l.map Lk.pv))), (2, vi but), (4, .ptr k4 0), (6, .ptr k6 0), (7, .ptr k7 0), (8, vi g.i)]) (fun g => ST S g.n [(k7, .cells [vi g.na, vi g.nb]), (k6, .cells [vi 0, vi 0]), (k4, .cells [vi x, vi y])])
    (fun g => g.i ≤ l.length ∧ n' ≤ g.n ∧ g.na + cnt (sgR ⟨x, y⟩) Lk.a but (l.drop g.i) g.i = cnt (sgR ⟨x, y⟩) Lk.a but l 0 ∧ g.nb + cnt (sgR ⟨x, y⟩) Lk.b but (l.drop g.i) g.i = cnt (sgR ⟨x, y⟩) Lk.b but l 0 ∧ (-(1048576 * g.i : Nat) ≤ g.na ∧ g.na ≤ (1048576 * g.i : Nat)) ∧ (-(1048576 * g.i : Nat) ≤ g.nb ∧ g.nb ≤ (1048576 * g.i : Nat)))
    (fun g => l.length - g.i) ⟨0, n', 0, 0⟩ (by simp) ?_ ?_
  · dsimp only; exact wk_mk hwf (by omega) (by simp) (by first | trivial | (simp only [keysP, and_true]; omega) | (repeat' (first | exact trivial | refine ⟨by omega, ?_⟩ | refine keys_vecB (fun k hk => by have := htk k hk; omega) ?_))) (by repeat' (first | exact trivial | refine ⟨?_, ?_⟩ | exact get_same | omega | refine get_other (by omega) ?_ | exact underL_mono (by omega) hu1)) (by simp only [fitsP]; repeat' (first | exact trivial | refine ⟨?_, ?_⟩ | exact .same trivial | exact wkV_out0 | exact wkV_out_eq hout (by omega) | exact wkV_ptr (by omega) | exact wkV_mapv (by omega) | exact .same (under_mono (by omega) hu.1) | exact .same (under_mono (by omega) hu.2.1) | exact .same (under_mono (by omega) hu.2.2.1) | exact wkV_int (by omega) | exact wkV_int (by simp) | exact .no _ _ _))
  · rintro ⟨i, n0, na, nb⟩ ⟨hi, hn0, ha, hb, hna, hnb⟩
    dsimp only at *
    repeat' (first
      | (refine i_ops ?_; first
        | (refine i_iadrS ?_; (refine q_iadrS_nat rfl rfl (get_map (by omega)) rfl ?_; have hx := hbd i (by omega)))
        | (refine i_loadA ?_; refine q_loadA_row rfl rfl ?_)
        | (refine i_call 29 ?_; refine q_call (fun S => spec100 S _ hx.1 hx.2.1 hx.2.2.1 hx.2.2.2.1) ?_)
        | (refine i_call 48 ?_; refine q_call (fun S => spec172 S _ _ _ _ _ _) ?_)
        | (refine i_op ?_; first
          | (refine i_mov ?_; first | refine q_mov_p rfl ?_ | refine q_mov_agg rfl ?_ | refine q_mov_ptr rfl ?_ | refine q_mov_ref rfl ?_ | refine q_mov_sl rfl ?_ | refine q_mov_fn rfl ?_ | refine q_mov_out rfl ?_ | refine q_mov_tup rfl ?_)
          | (refine i_load1 ?_; first | (apply q_load1_ref; (focus exact rfl); (focus exact rfl)) | (apply q_load1; (focus exact rfl); (focus (repeat (first | exact get_same | refine get_other (by omega) ?_))); (focus exact rfl)))
          | (refine i_loadA ?_; first | (apply q_loadA_ref; (focus exact rfl); (focus exact Nat.le_of_ble_eq_true rfl); (focus (first | (simp only [Lk.pv, List.take_zero, List.take_succ_cons, List.take_nil, List.drop_zero, List.drop_succ_cons, List.drop_nil, List.nil_append, List.cons_append, List.append_nil, List.map_cons, List.map_nil, List.replicate_succ, List.replicate_zero, List.flatten_cons, List.flatten_nil, Nat.zero_add, Nat.reduceAdd, chunk]; rfl) | rfl))) | (apply q_loadA; (focus exact rfl); (focus (repeat (first | exact get_same | refine get_other (by omega) ?_))); (focus exact Nat.le_of_ble_eq_true rfl); (focus (first | (simp only [Lk.pv, List.take_zero, List.take_succ_cons, List.take_nil, List.drop_zero, List.drop_succ_cons, List.drop_nil, List.nil_append, List.cons_append, List.append_nil, List.map_cons, List.map_nil, List.replicate_succ, List.replicate_zero, List.flatten_cons, List.flatten_nil, Nat.zero_add, Nat.reduceAdd, chunk]; rfl) | rfl))))
          | (refine i_store ?_; first | (apply q_store_agg; (focus exact rfl); (focus (repeat (first | exact get_same | refine get_other (by omega) ?_))); (focus exact rfl); (focus exact rfl); (focus exact Nat.le_of_ble_eq_true rfl); (focus (first | (simp only [Lk.pv, List.take_zero, List.take_succ_cons, List.take_nil, List.drop_zero, List.drop_succ_cons, List.drop_nil, List.nil_append, List.cons_append, List.append_nil, List.map_cons, List.map_nil, List.replicate_succ, List.replicate_zero, List.flatten_cons, List.flatten_nil, Nat.zero_add, Nat.reduceAdd, chunk]; rfl) | rfl))) | (apply q_store_p; (focus exact rfl); (focus (repeat (first | exact get_same | refine get_other (by omega) ?_))); (focus exact rfl); (focus exact Nat.le_of_ble_eq_true rfl); (focus (first | (simp only [Lk.pv, List.take_zero, List.take_succ_cons, List.take_nil, List.drop_zero, List.drop_succ_cons, List.drop_nil, List.nil_append, List.cons_append, List.append_nil, List.map_cons, List.map_nil, List.replicate_succ, List.replicate_zero, List.flatten_cons, List.flatten_nil, Nat.zero_add, Nat.reduceAdd, chunk]; rfl) | rfl))) | (apply q_store_sl; (focus exact rfl); (focus (repeat (first | exact get_same | refine get_other (by omega) ?_))); (focus exact rfl); (focus exact Nat.le_of_ble_eq_true rfl); (focus (first | (simp only [Lk.pv, List.take_zero, List.take_succ_cons, List.take_nil, List.drop_zero, List.drop_succ_cons, List.drop_nil, List.nil_append, List.cons_append, List.append_nil, List.map_cons, List.map_nil, List.replicate_succ, List.replicate_zero, List.flatten_cons, List.flatten_nil, Nat.zero_add, Nat.reduceAdd, chunk]; rfl) | rfl))) | (apply q_store_fn; (focus exact rfl); (focus (repeat (first | exact get_same | refine get_other (by omega) ?_))); (focus exact rfl); (focus exact Nat.le_of_ble_eq_true rfl); (focus (first | (simp only [Lk.pv, List.take_zero, List.take_succ_cons, List.take_nil, List.drop_zero, List.drop_succ_cons, List.drop_nil, List.nil_append, List.cons_append, List.append_nil, List.map_cons, List.map_nil, List.replicate_succ, List.replicate_zero, List.flatten_cons, List.flatten_nil, Nat.zero_add, Nat.reduceAdd, chunk]; rfl) | rfl))))
          | (refine i_fadr ?_; first | refine q_fadr rfl rfl ?_ | refine q_fadr_ref rfl rfl ?_)
          | (refine i_iadrS ?_; first | (apply q_iadrS_nat; (focus exact rfl); (focus exact rfl); (focus exact get_map (by omega)); (focus exact rfl)))
          | (refine i_iadrA ?_; first | refine q_iadrA rfl rfl (by omega) (by omega) rfl ?_)
          | (refine i_lenS ?_; first | refine q_lenS_map rfl ?_ | refine q_lenS rfl ?_)
          | (refine i_ext ?_; first | refine q_ext rfl rfl ?_)
          | (refine i_pick ?_; first | refine q_pick_t rfl ?_ | refine q_pick_f rfl ?_)
          | (refine i_alloc ?_; first | (refine q_alloc fun k hk => ?_))
          | (refine i_box ?_; first | (refine q_box_agg rfl fun k hk => ?_) | (refine q_box_p rfl fun k hk => ?_) | (refine q_box_sl rfl fun k hk => ?_) | (refine q_box_fn rfl fun k hk => ?_))
          | (refine i_minmax ?_; first | refine q_min2 rfl rfl ?_ | refine q_max2 rfl rfl ?_)
          | (refine i_arith _ ?_; first
            | (refine i_arith .add ?_; first | (apply q_add; (focus exact rfl); (focus exact rfl); (focus exact wrap64 (by omega))))
            | (refine i_arith .sub ?_; first | (apply q_sub; (focus exact rfl); (focus exact rfl); (focus exact wrap64 (by omega))))
            | (refine i_arith .lss ?_; first | refine q_lss rfl rfl (fun h => ?_) (fun h => ?_))
            | (refine i_arith .leq ?_; first | refine q_leq rfl rfl (fun h => ?_) (fun h => ?_))
            | (refine i_arith .gtr ?_; first | refine q_gtr rfl rfl (fun h => ?_) (fun h => ?_))
            | (refine i_arith .eql ?_; first | refine q_eql rfl rfl (fun h => ?_) (fun h => ?_))))
        | (refine i_guard ?_; first | refine q_on rfl ?_ | refine q_off rfl rfl ?_ | refine q_off_tup rfl ?_))
      | (apply q_nil_drawn; (focus (repeat' (first | exact trivial | refine sep1 rfl rfl (by omega) ?_))))
      | refine q_nil ?_
      | (refine i_awp ?_; first | refine q_seq ?_ | (refine q_reg fun n' hn' => ?_; simp only [List.length_cons, List.length_nil, Nat.zero_add, Nat.reduceAdd] at hn') | (refine q_drawn fun n' hn' => ?_; simp only [List.length_cons, List.length_nil, Nat.zero_add, Nat.reduceAdd] at hn') | refine q_cond_t rfl ?_ | refine q_cond_f rfl ?_ | refine q_block ?_ | refine q_exit ?_ | refine q_ret ?_ | refine q_skip ?_)
      | refine q_normal ?_
      | refine q_seq_exit ?_
      | refine q_loop_exit ?_
      | refine q_loop_ret ?_
      | refine q_seq_ret ?_
      | refine q_block_normal ?_
      | refine q_block_ret ?_
      | refine q_block_hit ?_
      | refine q_block_miss rfl ?_
      )
    rotate_right 1
    · rw [List.drop_eq_nil_of_le (by omega)] at ha hb
      simp only [cnt, Int.add_zero] at ha hb
      (refine q_fin hwf (res_cons (res_cellA rfl (by repeat (first | exact get_same | refine get_other (by omega) ?_)) (Nat.le_of_ble_eq_true rfl) (by first | (simp only [Lk.pv, List.take_zero, List.take_succ_cons, List.take_nil, List.drop_zero, List.drop_succ_cons, List.drop_nil, List.nil_append, List.cons_append, List.append_nil, List.map_cons, List.map_nil, List.replicate_succ, List.replicate_zero, List.flatten_cons, List.flatten_nil, Nat.zero_add, Nat.reduceAdd, chunk]; rfl) | rfl)) res_nil) ?_ ?_ ?_ ?_; (focus (rw [← ha, ← hb]; rfl)); (focus (simp only [AV.under, AV.underL, Tok.under, and_self])); (focus (first | trivial | (simp only [keysP, and_true]; omega) | (repeat' (first | exact trivial | refine ⟨by omega, ?_⟩ | refine keys_vecB (fun k hk => by have := htk k hk; omega) ?_)))); omega)
    all_goals
      have hsg := sgR_eq x y (l[i]'(by omega))
      first
        | (have hz : (i : Int) = but ∨ sgR ⟨x, y⟩ (l[i]'(by omega)) = 0 := by (first | (left; omega) | (right; rw [hsg]; (repeat' split) <;> omega))
           have hv := fun f : Lk → Int => hv0 (v := f (l[i]'(by omega))) hz
           have ha' := cnt_step (by omega) ha (hv _)
           have hb' := cnt_step (by omega) hb (hv _)
           (refine q_loop_normal ⟨i + 1, n', na, nb⟩ ⟨by simp only; omega, by simp only; omega, by simp only; omega, by simp only; omega, by simp only; omega, by simp only; omega⟩ (by simp only; omega) ?_; dsimp only; exact wk_mk hwf (by omega) (by omega) (by first | trivial | (simp only [keysP, and_true]; omega) | (repeat' (first | exact trivial | refine ⟨by omega, ?_⟩ | refine keys_vecB (fun k hk => by have := htk k hk; omega) ?_))) (by repeat' (first | exact trivial | refine ⟨?_, ?_⟩ | exact get_same | omega | refine get_other (by omega) ?_ | exact underL_mono (by omega) hu1)) (by simp only [fitsP]; repeat' (first | exact trivial | refine ⟨?_, ?_⟩ | exact .same trivial | exact wkV_out0 | exact wkV_out_eq hout (by omega) | exact wkV_ptr (by omega) | exact wkV_mapv (by omega) | exact .same (under_mono (by omega) hu.1) | exact .same (under_mono (by omega) hu.2.1) | exact .same (under_mono (by omega) hu.2.2.1) | exact wkV_int (by omega) | exact wkV_int (by simp) | exact .no _ _ _))))
        | (have hz : (i : Int) ≠ but ∧ sgR ⟨x, y⟩ (l[i]'(by omega)) = 1 := by (refine And.intro ?_ ?_; omega; rw [hsg]; (repeat' split) <;> omega)
           have hv := fun f : Lk → Int => hv1 (v := f (l[i]'(by omega))) hz
           have ha' := cnt_step (by omega) ha (hv _)
           have hb' := cnt_step (by omega) hb (hv _)
           (refine q_loop_normal ⟨i + 1, n', na + (l[i]'(by omega)).a, nb + (l[i]'(by omega)).b⟩ ⟨by simp only; omega, by simp only; omega, by simp only; omega, by simp only; omega, by simp only; omega, by simp only; omega⟩ (by simp only; omega) ?_; dsimp only; exact wk_mk hwf (by omega) (by omega) (by first | trivial | (simp only [keysP, and_true]; omega) | (repeat' (first | exact trivial | refine ⟨by omega, ?_⟩ | refine keys_vecB (fun k hk => by have := htk k hk; omega) ?_))) (by repeat' (first | exact trivial | refine ⟨?_, ?_⟩ | exact get_same | omega | refine get_other (by omega) ?_ | exact underL_mono (by omega) hu1)) (by simp only [fitsP]; repeat' (first | exact trivial | refine ⟨?_, ?_⟩ | exact .same trivial | exact wkV_out0 | exact wkV_out_eq hout (by omega) | exact wkV_ptr (by omega) | exact wkV_mapv (by omega) | exact .same (under_mono (by omega) hu.1) | exact .same (under_mono (by omega) hu.2.1) | exact .same (under_mono (by omega) hu.2.2.1) | exact wkV_int (by omega) | exact wkV_int (by simp) | exact .no _ _ _))))
        | (have hz : (i : Int) ≠ but ∧ sgR ⟨x, y⟩ (l[i]'(by omega)) = -1 := by (refine And.intro ?_ ?_; omega; rw [hsg]; (repeat' split) <;> omega)
           have hv := fun f : Lk → Int => hvn (v := f (l[i]'(by omega))) hz
           have ha' := cnt_step (by omega) ha (hv _)
           have hb' := cnt_step (by omega) hb (hv _)
           (refine q_loop_normal ⟨i + 1, n', na - (l[i]'(by omega)).a, nb - (l[i]'(by omega)).b⟩ ⟨by simp only; omega, by simp only; omega, by simp only; omega, by simp only; omega, by simp only; omega, by simp only; omega⟩ (by simp only; omega) ?_; dsimp only; exact wk_mk hwf (by omega) (by omega) (by first | trivial | (simp only [keysP, and_true]; omega) | (repeat' (first | exact trivial | refine ⟨by omega, ?_⟩ | refine keys_vecB (fun k hk => by have := htk k hk; omega) ?_))) (by repeat' (first | exact trivial | refine ⟨?_, ?_⟩ | exact get_same | omega | refine get_other (by omega) ?_ | exact underL_mono (by omega) hu1)) (by simp only [fitsP]; repeat' (first | exact trivial | refine ⟨?_, ?_⟩ | exact .same trivial | exact wkV_out0 | exact wkV_out_eq hout (by omega) | exact wkV_ptr (by omega) | exact wkV_mapv (by omega) | exact .same (under_mono (by omega) hu.1) | exact .same (under_mono (by omega) hu.2.1) | exact .same (under_mono (by omega) hu.2.2.1) | exact wkV_int (by omega) | exact wkV_int (by simp) | exact .no _ _ _))))

theorem spec102 (S : St) (nl : Bool) (l : List Lk) (x y but : Int) (hl : rightL l = true) :
    ASpec Try.prog 31 [.p (.sl nl (l.map Lk.pv)), .agg [vi x, vi y], vi but] S (.agg [vi (cnt (sgU ⟨x, y⟩) Lk.a but l 0), vi (cnt (sgU ⟨x, y⟩) Lk.b but l 0)]) S := by
  have hbd := rightL_bd hl
  have hlen := (rightL_mem hl).1
  refine q_fun hmix c102 rfl (Nat.le_of_ble_eq_true rfl) fun hwf hu => ?_
  repeat' (first
    | (refine i_ops ?_; first
      | (refine i_op ?_; first
        | (refine i_mov ?_; first | refine q_mov_p rfl ?_ | refine q_mov_agg rfl ?_ | refine q_mov_ptr rfl ?_ | refine q_mov_ref rfl ?_ | refine q_mov_sl rfl ?_ | refine q_mov_fn rfl ?_ | refine q_mov_out rfl ?_ | refine q_mov_tup rfl ?_)
        | (refine i_load1 ?_; first | (apply q_load1_ref; (focus exact rfl); (focus exact rfl)) | (apply q_load1; (focus exact rfl); (focus (repeat (first | exact get_same | refine get_other (by omega) ?_))); (focus exact rfl)))
        | (refine i_loadA ?_; first | (apply q_loadA_ref; (focus exact rfl); (focus exact Nat.le_of_ble_eq_true rfl); (focus (first | (simp only [Lk.pv, List.take_zero, List.take_succ_cons, List.take_nil, List.drop_zero, List.drop_succ_cons, List.drop_nil, List.nil_append, List.cons_append, List.append_nil, List.map_cons, List.map_nil, List.replicate_succ, List.replicate_zero, List.flatten_cons, List.flatten_nil, Nat.zero_add, Nat.reduceAdd, chunk]; rfl) | rfl))) | (apply q_loadA; (focus exact rfl); (focus (repeat (first | exact get_same | refine get_other (by omega) ?_))); (focus exact Nat.le_of_ble_eq_true rfl); (focus (first | (simp only [Lk.pv, List.take_zero, List.take_succ_cons, List.take_nil, List.drop_zero, List.drop_succ_cons, List.drop_nil, List.nil_append, List.cons_append, List.append_nil, List.map_cons, List.map_nil, List.replicate_succ, List.replicate_zero, List.flatten_cons, List.flatten_nil, Nat.zero_add, Nat.reduceAdd, chunk]; rfl) | rfl))))
        | (refine i_store ?_; first | (apply q_store_agg; (focus exact rfl); (focus (repeat (first | exact get_same | refine get_other (by omega) ?_))); (focus exact rfl); (focus exact rfl); (focus exact Nat.le_of_ble_eq_true rfl); (focus (first | (simp only [Lk.pv, List.take_zero, List.take_succ_cons, List.take_nil, List.drop_zero, List.drop_succ_cons, List.drop_nil, List.nil_append, List.cons_append, List.append_nil, List.map_cons, List.map_nil, List.replicate_succ, List.replicate_zero, List.flatten_cons, List.flatten_nil, Nat.zero_add, Nat.reduceAdd, chunk]; rfl) | rfl))) | (apply q_store_p; (focus exact rfl); (focus (repeat (first | exact get_same | refine get_other (by omega) ?_))); (focus exact rfl); (focus exact Nat.le_of_ble_eq_true rfl); (focus (first | (simp only [Lk.pv, List.take_zero, List.take_succ_cons, List.take_nil, List.drop_zero, List.drop_succ_cons, List.drop_nil, List.nil_append, List.cons_append, List.append_nil, List.map_cons, List.map_nil, List.replicate_succ, List.replicate_zero, List.flatten_cons, List.flatten_nil, Nat.zero_add, Nat.reduceAdd, chunk]; rfl) | rfl))) | (apply q_store_sl; (focus exact rfl); (focus (repeat (first | exact get_same | refine get_other (by omega) ?_))); (focus exact rfl); (focus exact Nat.le_of_ble_eq_true rfl); (focus (first | (simp only [Lk.pv, List.take_zero, List.take_succ_cons, List.take_nil, List.drop_zero, List.drop_succ_cons, List.drop_nil, List.nil_append, List.cons_append, List.append_nil, List.map_cons, List.map_nil, List.replicate_succ, List.replicate_zero, List.flatten_cons, List.flatten_nil, Nat.zero_add, Nat.reduceAdd, chunk]; rfl) | rfl))) | (apply q_store_fn; (focus exact rfl); (focus (repeat (first | exact get_same | refine get_other (by omega) ?_))); (focus exact rfl); (focus exact Nat.le_of_ble_eq_true rfl); (focus (first | (simp only [Lk.pv, List.take_zero, List.take_succ_cons, List.take_nil, List.drop_zero, List.drop_succ_cons, List.drop_nil, List.nil_append, List.cons_append, List.append_nil, List.map_cons, List.map_nil, List.replicate_succ, List.replicate_zero, List.flatten_cons, List.flatten_nil, Nat.zero_add, Nat.reduceAdd, chunk]; rfl) | rfl))))
        | (refine i_fadr ?_; first | refine q_fadr rfl rfl ?_ | refine q_fadr_ref rfl rfl ?_)
        | (refine i_iadrS ?_; first | (apply q_iadrS_nat; (focus exact rfl); (focus exact rfl); (focus exact get_map (by omega)); (focus exact rfl)))
        | (refine i_iadrA ?_; first | refine q_iadrA rfl rfl (by omega) (by omega) rfl ?_)
        | (refine i_lenS ?_; first | refine q_lenS_map rfl ?_ | refine q_lenS rfl ?_)
        | (refine i_ext ?_; first | refine q_ext rfl rfl ?_)
        | (refine i_pick ?_; first | refine q_pick_t rfl ?_ | refine q_pick_f rfl ?_)
        | (refine i_arith _ ?_; first
          | (refine i_arith .add ?_; first | (apply q_add; (focus exact rfl); (focus exact rfl); (focus exact wrap64 (by omega))))
          | (refine i_arith .sub ?_; first | (apply q_sub; (focus exact rfl); (focus exact rfl); (focus exact wrap64 (by omega))))
          | (refine i_arith .lss ?_; first | refine q_lss rfl rfl (fun h => ?_) (fun h => ?_))
          | (refine i_arith .leq ?_; first | refine q_leq rfl rfl (fun h => ?_) (fun h => ?_))
          | (refine i_arith .gtr ?_; first | refine q_gtr rfl rfl (fun h => ?_) (fun h => ?_))
          | (refine i_arith .neq ?_; first | refine q_neq rfl rfl (fun h => ?_) (fun h => ?_))))
      | (refine i_guard ?_; first | refine q_on rfl ?_ | refine q_off rfl rfl ?_ | refine q_off_tup rfl ?_))
    | (apply q_nil_drawn; (focus (repeat' (first | exact trivial | refine sep1 rfl rfl (by omega) ?_))))
    | refine q_nil ?_
    | (refine i_awp ?_; first | refine q_seq ?_ | (refine q_reg fun n' hn' => ?_; simp only [List.length_cons, List.length_nil, Nat.zero_add, Nat.reduceAdd] at hn') | (refine q_drawn fun n' hn' => ?_; simp only [List.length_cons, List.length_nil, Nat.zero_add, Nat.reduceAdd] at hn') | refine q_cond_t rfl ?_ | refine q_cond_f rfl ?_ | refine q_block ?_ | refine q_exit ?_ | refine q_ret ?_ | refine q_skip ?_)
    | refine q_normal ?_
    | refine q_seq_exit ?_
    | refine q_loop_exit ?_
    | refine q_loop_ret ?_
    | refine q_seq_ret ?_
    | refine q_block_normal ?_
    | refine q_block_ret ?_
    | refine q_block_hit ?_
    | refine q_block_miss rfl ?_
    )
  refine q_box_agg rfl fun k4 hk4 => ?_
  refine q_alloc fun k6 hk6 => ?_
  repeat' (first
    | (refine i_ops ?_; first
      | (refine i_op ?_; first
        | (refine i_mov ?_; first | refine q_mov_p rfl ?_ | refine q_mov_agg rfl ?_ | refine q_mov_ptr rfl ?_ | refine q_mov_ref rfl ?_ | refine q_mov_sl rfl ?_ | refine q_mov_fn rfl ?_ | refine q_mov_out rfl ?_ | refine q_mov_tup rfl ?_)
        | (refine i_load1 ?_; first | (apply q_load1_ref; (focus exact rfl); (focus exact rfl)) | (apply q_load1; (focus exact rfl); (focus (repeat (first | exact get_same | refine get_other (by omega) ?_))); (focus exact rfl)))
        | (refine i_loadA ?_; first | (apply q_loadA_ref; (focus exact rfl); (focus exact Nat.le_of_ble_eq_true rfl); (focus (first | (simp only [Lk.pv, List.take_zero, List.take_succ_cons, List.take_nil, List.drop_zero, List.drop_succ_cons, List.drop_nil, List.nil_append, List.cons_append, List.append_nil, List.map_cons, List.map_nil, List.replicate_succ, List.replicate_zero, List.flatten_cons, List.flatten_nil, Nat.zero_add, Nat.reduceAdd, chunk]; rfl) | rfl))) | (apply q_loadA; (focus exact rfl); (focus (repeat (first | exact get_same | refine get_other (by omega) ?_))); (focus exact Nat.le_of_ble_eq_true rfl); (focus (first | (simp only [Lk.pv, List.take_zero, List.take_succ_cons, List.take_nil, List.drop_zero, List.drop_succ_cons, List.drop_nil, List.nil_append, List.cons_append, List.append_nil, List.map_cons, List.map_nil, List.replicate_succ, List.replicate_zero, List.flatten_cons, List.flatten_nil, Nat.zero_add, Nat.reduceAdd, chunk]; rfl) | rfl))))
        | (refine i_store ?_; first | (apply q_store_agg; (focus exact rfl); (focus (repeat (first | exact get_same | refine get_other (by omega) ?_))); (focus exact rfl); (focus exact rfl); (focus exact Nat.le_of_ble_eq_true rfl); (focus (first | (simp only [Lk.pv, List.take_zero, List.take_succ_cons, List.take_nil, List.drop_zero, List.drop_succ_cons, List.drop_nil, List.nil_append, List.cons_append, List.append_nil, List.map_cons, List.map_nil, List.replicate_succ, List.replicate_zero, List.flatten_cons, List.flatten_nil, Nat.zero_add, Nat.reduceAdd, chunk]; rfl) | rfl))) | (apply q_store_p; (focus exact rfl); (focus (repeat (first | exact get_same | refine get_other (by omega) ?_))); (focus exact rfl); (focus exact Nat.le_of_ble_eq_true rfl); (focus (first | (simp only [Lk.pv, List.take_zero, List.take_succ_cons, List.take_nil, List.drop_zero, List.drop_succ_cons, List.drop_nil, List.nil_append, List.cons_append, List.append_nil, List.map_cons, List.map_nil, List.replicate_succ, List.replicate_zero, List.flatten_cons, List.flatten_nil, Nat.zero_add, Nat.reduceAdd, chunk]; rfl) | rfl))) | (apply q_store_sl; (focus exact rfl); (focus (repeat (first | exact get_same | refine get_other (by omega) ?_))); (focus exact rfl); (focus exact Nat.le_of_ble_eq_true rfl); (focus (first | (simp only [Lk.pv, List.take_zero, List.take_succ_cons, List.take_nil, List.drop_zero, List.drop_succ_cons, List.drop_nil, List.nil_append, List.cons_append, List.append_nil, List.map_cons, List.map_nil, List.replicate_succ, List.replicate_zero, List.flatten_cons, List.flatten_nil, Nat.zero_add, Nat.reduceAdd, chunk]; rfl) | rfl))) | (apply q_store_fn; (focus exact rfl); (focus (repeat (first | exact get_same | refine get_other (by omega) ?_))); (focus exact rfl); (focus exact Nat.le_of_ble_eq_true rfl); (focus (first | (simp only [Lk.pv, List.take_zero, List.take_succ_cons, List.take_nil, List.drop_zero, List.drop_succ_cons, List.drop_nil, List.nil_append, List.cons_append, List.append_nil, List.map_cons, List.map_nil, List.replicate_succ, List.replicate_zero, List.flatten_cons, List.flatten_nil, Nat.zero_add, Nat.reduceAdd, chunk]; rfl) | rfl))))
        | (refine i_fadr ?_; first | refine q_fadr rfl rfl ?_ | refine q_fadr_ref rfl rfl ?_)
        | (refine i_iadrS ?_; first | (apply q_iadrS_nat; (focus exact rfl); (focus exact rfl); (focus exact get_map (by omega)); (focus exact rfl)))
        | (refine i_iadrA ?_; first | refine q_iadrA rfl rfl (by omega) (by omega) rfl ?_)
        | (refine i_lenS ?_; first | refine q_lenS_map rfl ?_ | refine q_lenS rfl ?_)
        | (refine i_ext ?_; first | refine q_ext rfl rfl ?_)
        | (refine i_pick ?_; first | refine q_pick_t rfl ?_ | refine q_pick_f rfl ?_)
        | (refine i_arith _ ?_; first
          | (refine i_arith .add ?_; first | (apply q_add; (focus exact rfl); (focus exact rfl); (focus exact wrap64 (by omega))))
          | (refine i_arith .sub ?_; first | (apply q_sub; (focus exact rfl); (focus exact rfl); (focus exact wrap64 (by omega))))
          | (refine i_arith .lss ?_; first | refine q_lss rfl rfl (fun h => ?_) (fun h => ?_))
          | (refine i_arith .leq ?_; first | refine q_leq rfl rfl (fun h => ?_) (fun h => ?_))
          | (refine i_arith .gtr ?_; first | refine q_gtr rfl rfl (fun h => ?_) (fun h => ?_))
          | (refine i_arith .neq ?_; first | refine q_neq rfl rfl (fun h => ?_) (fun h => ?_))))
      | (refine i_guard ?_; first | refine q_on rfl ?_ | refine q_off rfl rfl ?_ | refine q_off_tup rfl ?_))
    | (apply q_nil_drawn; (focus (repeat' (first | exact trivial | refine sep1 rfl rfl (by omega) ?_))))
    | refine q_nil ?_
    | (refine i_awp ?_; first | refine q_seq ?_ | (refine q_reg fun n' hn' => ?_; simp only [List.length_cons, List.length_nil, Nat.zero_add, Nat.reduceAdd] at hn') | (refine q_drawn fun n' hn' => ?_; simp only [List.length_cons, List.length_nil, Nat.zero_add, Nat.reduceAdd] at hn') | refine q_cond_t rfl ?_ | refine q_cond_f rfl ?_ | refine q_block ?_ | refine q_exit ?_ | refine q_ret ?_ | refine q_skip ?_)
    | refine q_normal ?_
    | refine q_seq_exit ?_
    | refine q_loop_exit ?_
    | refine q_loop_ret ?_
    | refine q_seq_ret ?_
    | refine q_block_normal ?_
    | refine q_block_ret ?_
    | refine q_block_hit ?_
    | refine q_block_miss rfl ?_
    )
  refine q_alloc fun k7 hk7 => ?_
  repeat' (first
    | (refine i_ops ?_; first
      | (refine i_op ?_; first
        | (refine i_mov ?_; first | refine q_mov_p rfl ?_ | refine q_mov_agg rfl ?_ | refine q_mov_ptr rfl ?_ | refine q_mov_ref rfl ?_ | refine q_mov_sl rfl ?_ | refine q_mov_fn rfl ?_ | refine q_mov_out rfl ?_ | refine q_mov_tup rfl ?_)
        | (refine i_load1 ?_; first | (apply q_load1_ref; (focus exact rfl); (focus exact rfl)) | (apply q_load1; (focus exact rfl); (focus (repeat (first | exact get_same | refine get_other (by omega) ?_))); (focus exact rfl)))
        | (refine i_loadA ?_; first | (apply q_loadA_ref; (focus exact rfl); (focus exact Nat.le_of_ble_eq_true rfl); (focus (first | (simp only [Lk.pv, List.take_zero, List.take_succ_cons, List.take_nil, List.drop_zero, List.drop_succ_cons, List.drop_nil, List.nil_append, List.cons_append, List.append_nil, List.map_cons, List.map_nil, List.replicate_succ, List.replicate_zero, List.flatten_cons, List.flatten_nil, Nat.zero_add, Nat.reduceAdd, chunk]; rfl) | rfl))) | (apply q_loadA; (focus exact rfl); (focus (repeat (first | exact get_same | refine get_other (by omega) ?_))); (focus exact Nat.le_of_ble_eq_true rfl); (focus (first | (simp only [Lk.pv, List.take_zero, List.take_succ_cons, List.take_nil, List.drop_zero, List.drop_succ_cons, List.drop_nil, List.nil_append, List.cons_append, List.append_nil, List.map_cons, List.map_nil, List.replicate_succ, List.replicate_zero, List.flatten_cons, List.flatten_nil, Nat.zero_add, Nat.reduceAdd, chunk]; rfl) | rfl))))
        | (refine i_store ?_; first | (apply q_store_agg; (focus exact rfl); (focus (repeat (first | exact get_same | refine get_other (by omega) ?_))); (focus exact rfl); (focus exact rfl); (focus exact Nat.le_of_ble_eq_true rfl); (focus (first | (simp only [Lk.pv, List.take_zero, List.take_succ_cons, List.take_nil, List.drop_zero, List.drop_succ_cons, List.drop_nil, List.nil_append, List.cons_append, List.append_nil, List.map_cons, List.map_nil, List.replicate_succ, List.replicate_zero, List.flatten_cons, List.flatten_nil, Nat.zero_add, Nat.reduceAdd, chunk]; rfl) | rfl))) | (apply q_store_p; (focus exact rfl); (focus (repeat (first | exact get_same | refine get_other (by omega) ?_))); (focus exact rfl); (focus exact Nat.le_of_ble_eq_true rfl); (focus (first | (simp only [Lk.pv, List.take_zero, List.take_succ_cons, List.take_nil, List.drop_zero, List.drop_succ_cons, List.drop_nil, List.nil_append, List.cons_append, List.append_nil, List.map_cons, List.map_nil, List.replicate_succ, List.replicate_zero, List.flatten_cons, List.flatten_nil, Nat.zero_add, Nat.reduceAdd, chunk]; rfl) | rfl))) | (apply q_store_sl; (focus exact rfl); (focus (repeat (first | exact get_same | refine get_other (by omega) ?_))); (focus exact rfl); (focus exact Nat.le_of_ble_eq_true rfl); (focus (first | (simp only [Lk.pv, List.take_zero, List.take_succ_cons, List.take_nil, List.drop_zero, List.drop_succ_cons, List.drop_nil, List.nil_append, List.cons_append, List.append_nil, List.map_cons, List.map_nil, List.replicate_succ, List.replicate_zero, List.flatten_cons, List.flatten_nil, Nat.zero_add, Nat.reduceAdd, chunk]; rfl) | rfl))) | (apply q_store_fn; (focus exact rfl); (focus (repeat (first | exact get_same | refine get_other (by omega) ?_))); (focus exact rfl); (focus exact Nat.le_of_ble_eq_true rfl); (focus (first | (simp only [Lk.pv, List.take_zero, List.take_succ_cons, List.take_nil, List.drop_zero, List.drop_succ_cons, List.drop_nil, List.nil_append, List.cons_append, List.append_nil, List.map_cons, List.map_nil, List.replicate_succ, List.replicate_zero, List.flatten_cons, List.flatten_nil, Nat.zero_add, Nat.reduceAdd, chunk]; rfl) | rfl))))
        | (refine i_fadr ?_; first | refine q_fadr rfl rfl ?_ | refine q_fadr_ref rfl rfl ?_)
        | (refine i_iadrS ?_; first | (apply q_iadrS_nat; (focus exact rfl); (focus exact rfl); (focus exact get_map (by omega)); (focus exact rfl)))
        | (refine i_iadrA ?_; first | refine q_iadrA rfl rfl (by omega) (by omega) rfl ?_)
        | (refine i_lenS ?_; first | refine q_lenS_map rfl ?_ | refine q_lenS rfl ?_)
        | (refine i_ext ?_; first | refine q_ext rfl rfl ?_)
        | (refine i_pick ?_; first | refine q_pick_t rfl ?_ | refine q_pick_f rfl ?_)
        | (refine i_alloc ?_; first | (refine q_alloc fun k hk => ?_))
        | (refine i_box ?_; first | (refine q_box_agg rfl fun k hk => ?_) | (refine q_box_p rfl fun k hk => ?_) | (refine q_box_sl rfl fun k hk => ?_) | (refine q_box_fn rfl fun k hk => ?_))
        | (refine i_arith _ ?_; first
          | (refine i_arith .add ?_; first | (apply q_add; (focus exact rfl); (focus exact rfl); (focus exact wrap64 (by omega))))
          | (refine i_arith .sub ?_; first | (apply q_sub; (focus exact rfl); (focus exact rfl); (focus exact wrap64 (by omega))))
          | (refine i_arith .lss ?_; first | refine q_lss rfl rfl (fun h => ?_) (fun h => ?_))
          | (refine i_arith .leq ?_; first | refine q_leq rfl rfl (fun h => ?_) (fun h => ?_))
          | (refine i_arith .gtr ?_; first | refine q_gtr rfl rfl (fun h => ?_) (fun h => ?_))
          | (refine i_arith .neq ?_; first | refine q_neq rfl rfl (fun h => ?_) (fun h => ?_))))
      | (refine i_guard ?_; first | refine q_on rfl ?_ | refine q_off rfl rfl ?_ | refine q_off_tup rfl ?_))
    | (apply q_nil_drawn; (focus (repeat' (first | exact trivial | refine sep1 rfl rfl (by omega) ?_))))
    | refine q_nil ?_
    | (refine i_awp ?_; first | refine q_seq ?_ | (refine q_reg fun n' hn' => ?_; simp only [List.length_cons, List.length_nil, Nat.zero_add, Nat.reduceAdd] at hn') | (refine q_drawn fun n' hn' => ?_; simp only [List.length_cons, List.length_nil, Nat.zero_add, Nat.reduceAdd] at hn') | refine q_cond_t rfl ?_ | refine q_cond_f rfl ?_ | refine q_block ?_ | refine q_exit ?_ | refine q_ret ?_ | refine q_skip ?_)
    | refine q_normal ?_
    | refine q_seq_exit ?_
    | refine q_loop_exit ?_
    | refine q_loop_ret ?_
    | refine q_seq_ret ?_
    | refine q_block_normal ?_
    | refine q_block_ret ?_
    | refine q_block_hit ?_
    | refine q_block_miss rfl ?_
    )
  refine q_loop (γ := GC) (fun g => [(0, .p (.sl nl (l.map Lk.pv))), (2, vi but), (4, .ptr k4 0), (6, .ptr k6 0), (7, .ptr k7 0), (8, vi g.i)]) (fun g => ST S g.n [(k7, .cells [vi g.na, vi g.nb]), (k6, .cells [vi 0, vi 0]), (k4, .cells [vi x, vi y])])
    (fun g => g.i ≤ l.length ∧ n' ≤ g.n ∧ g.na + cnt (sgU ⟨x, y⟩) Lk.a but (l.drop g.i) g.i = cnt (sgU ⟨x, y⟩) Lk.a but l 0 ∧ g.nb + cnt (sgU ⟨x, y⟩) Lk.b but (l.drop g.i) g.i = cnt (sgU ⟨x, y⟩) Lk.b but l 0 ∧ (-(1048576 * g.i : Nat) ≤ g.na ∧ g.na ≤ (1048576 * g.i : Nat)) ∧ (-(1048576 * g.i : Nat) ≤ g.nb ∧ g.nb ≤ (1048576 * g.i : Nat)))
    (fun g => l.length - g.i) ⟨0, n', 0, 0⟩ (by simp) ?_ ?_
  · dsimp only; exact wk_mk hwf (by omega) (by simp) (by first | trivial | (simp only [keysP, and_true]; omega) | (repeat' (first | exact trivial | refine ⟨by omega, ?_⟩ | refine keys_vecB (fun k hk => by have := htk k hk; omega) ?_))) (by repeat' (first | exact trivial | refine ⟨?_, ?_⟩ | exact get_same | omega | refine get_other (by omega) ?_ | exact underL_mono (by omega) hu1)) (by simp only [fitsP]; repeat' (first | exact trivial | refine ⟨?_, ?_⟩ | exact .same trivial | exact wkV_out0 | exact wkV_out_eq hout (by omega) | exact wkV_ptr (by omega) | exact wkV_mapv (by omega) | exact .same (under_mono (by omega) hu.1) | exact .same (under_mono (by omega) hu.2.1) | exact .same (under_mono (by omega) hu.2.2.1) | exact wkV_int (by omega) | exact wkV_int (by simp) | exact .no _ _ _))
  · rintro ⟨i, n0, na, nb⟩ ⟨hi, hn0, ha, hb, hna, hnb⟩
    dsimp only at *
    repeat' (first
      | (refine i_ops ?_; first
        | (refine i_iadrS ?_; (refine q_iadrS_nat rfl rfl (get_map (by omega)) rfl ?_; have hx := hbd i (by omega)))
        | (refine i_loadA ?_; refine q_loadA_row rfl rfl ?_)
        | (refine i_call 29 ?_; refine q_call (fun S => spec100 S _ hx.1 hx.2.1 hx.2.2.1 hx.2.2.2.1) ?_)
        | (refine i_call 43 ?_; refine q_call (fun S => spec113 S _ _ _ _ _ _) ?_)
        | (refine i_op ?_; first
          | (refine i_mov ?_; first | refine q_mov_p rfl ?_ | refine q_mov_agg rfl ?_ | refine q_mov_ptr rfl ?_ | refine q_mov_ref rfl ?_ | refine q_mov_sl rfl ?_ | refine q_mov_fn rfl ?_ | refine q_mov_out rfl ?_ | refine q_mov_tup rfl ?_)
          | (refine i_load1 ?_; first | (apply q_load1_ref; (focus exact rfl); (focus exact rfl)) | (apply q_load1; (focus exact rfl); (focus (repeat (first | exact get_same | refine get_other (by omega) ?_))); (focus exact rfl)))
          | (refine i_loadA ?_; first | (apply q_loadA_ref; (focus exact rfl); (focus exact Nat.le_of_ble_eq_true rfl); (focus (first | (simp only [Lk.pv, List.take_zero, List.take_succ_cons, List.take_nil, List.drop_zero, List.drop_succ_cons, List.drop_nil, List.nil_append, List.cons_append, List.append_nil, List.map_cons, List.map_nil, List.replicate_succ, List.replicate_zero, List.flatten_cons, List.flatten_nil, Nat.zero_add, Nat.reduceAdd, chunk]; rfl) | rfl))) | (apply q_loadA; (focus exact rfl); (focus (repeat (first | exact get_same | refine get_other (by omega) ?_))); (focus exact Nat.le_of_ble_eq_true rfl); (focus (first | (simp only [Lk.pv, List.take_zero, List.take_succ_cons, List.take_nil, List.drop_zero, List.drop_succ_cons, List.drop_nil, List.nil_append, List.cons_append, List.append_nil, List.map_cons, List.map_nil, List.replicate_succ, List.replicate_zero, List.flatten_cons, List.flatten_nil, Nat.zero_add, Nat.reduceAdd, chunk]; rfl) | rfl))))
          | (refine i_store ?_; first | (apply q_store_agg; (focus exact rfl); (focus (repeat (first | exact get_same | refine get_other (by omega) ?_))); (focus exact rfl); (focus exact rfl); (focus exact Nat.le_of_ble_eq_true rfl); (focus (first | (simp only [Lk.pv, List.take_zero, List.take_succ_cons, List.take_nil, List.drop_zero, List.drop_succ_cons, List.drop_nil, List.nil_append, List.cons_append, List.append_nil, List.map_cons, List.map_nil, List.replicate_succ, List.replicate_zero, List.flatten_cons, List.flatten_nil, Nat.zero_add, Nat.reduceAdd, chunk]; rfl) | rfl))) | (apply q_store_p; (focus exact rfl); (focus (repeat (first | exact get_same | refine get_other (by omega) ?_))); (focus exact rfl); (focus exact Nat.le_of_ble_eq_true rfl); (focus (first | (simp only [Lk.pv, List.take_zero, List.take_succ_cons, List.take_nil, List.drop_zero, List.drop_succ_cons, List.drop_nil, List.nil_append, List.cons_append, List.append_nil, List.map_cons, List.map_nil, List.replicate_succ, List.replicate_zero, List.flatten_cons, List.flatten_nil, Nat.zero_add, Nat.reduceAdd, chunk]; rfl) | rfl))) | (apply q_store_sl; (focus exact rfl); (focus (repeat (first | exact get_same | refine get_other (by omega) ?_))); (focus exact rfl); (focus exact Nat.le_of_ble_eq_true rfl); (focus (first | (simp only [Lk.pv, List.take_zero, List.take_succ_cons, List.take_nil, List.drop_zero, List.drop_succ_cons, List.drop_nil, List.nil_append, List.cons_append, List.append_nil, List.map_cons, List.map_nil, List.replicate_succ, List.replicate_zero, List.flatten_cons, List.flatten_nil, Nat.zero_add, Nat.reduceAdd, chunk]; rfl) | rfl))) | (apply q_store_fn; (focus exact rfl); (focus (repeat (first | exact get_same | refine get_other (by omega) ?_))); (focus exact rfl); (focus exact Nat.le_of_ble_eq_true rfl); (focus (first | (simp only [Lk.pv, List.take_zero, List.take_succ_cons, List.take_nil, List.drop_zero, List.drop_succ_cons, List.drop_nil, List.nil_append, List.cons_append, List.append_nil, List.map_cons, List.map_nil, List.replicate_succ, List.replicate_zero, List.flatten_cons, List.flatten_nil, Nat.zero_add, Nat.reduceAdd, chunk]; rfl) | rfl))))
          | (refine i_fadr ?_; first | refine q_fadr rfl rfl ?_ | refine q_fadr_ref rfl rfl ?_)
          | (refine i_iadrS ?_; first | (apply q_iadrS_nat; (focus exact rfl); (focus exact rfl); (focus exact get_map (by omega)); (focus exact rfl)))
          | (refine i_iadrA ?_; first | refine q_iadrA rfl rfl (by omega) (by omega) rfl ?_)
          | (refine i_lenS ?_; first | refine q_lenS_map rfl ?_ | refine q_lenS rfl ?_)
          | (refine i_ext ?_; first | refine q_ext rfl rfl ?_)
          | (refine i_pick ?_; first | refine q_pick_t rfl ?_ | refine q_pick_f rfl ?_)
          | (refine i_alloc ?_; first | (refine q_alloc fun k hk => ?_))
          | (refine i_box ?_; first | (refine q_box_agg rfl fun k hk => ?_) | (refine q_box_p rfl fun k hk => ?_) | (refine q_box_sl rfl fun k hk => ?_) | (refine q_box_fn rfl fun k hk => ?_))
          | (refine i_arith _ ?_; first
            | (refine i_arith .add ?_; first | (apply q_add; (focus exact rfl); (focus exact rfl); (focus exact wrap64 (by omega))))
            | (refine i_arith .sub ?_; first | (apply q_sub; (focus exact rfl); (focus exact rfl); (focus exact wrap64 (by omega))))
            | (refine i_arith .lss ?_; first | refine q_lss rfl rfl (fun h => ?_) (fun h => ?_))
            | (refine i_arith .leq ?_; first | refine q_leq rfl rfl (fun h => ?_) (fun h => ?_))
            | (refine i_arith .gtr ?_; first | refine q_gtr rfl rfl (fun h => ?_) (fun h => ?_))
            | (refine i_arith .neq ?_; first | refine q_neq rfl rfl (fun h => ?_) (fun h => ?_))))
        | (refine i_guard ?_; first | refine q_on rfl ?_ | refine q_off rfl rfl ?_ | refine q_off_tup rfl ?_))
      | (apply q_nil_drawn; (focus (repeat' (first | exact trivial | refine sep1 rfl rfl (by omega) ?_))))
      | refine q_nil ?_
      | (refine i_awp ?_; first | refine q_seq ?_ | (refine q_reg fun n' hn' => ?_; simp only [List.length_cons, List.length_nil, Nat.zero_add, Nat.reduceAdd] at hn') | (refine q_drawn fun n' hn' => ?_; simp only [List.length_cons, List.length_nil, Nat.zero_add, Nat.reduceAdd] at hn') | refine q_cond_t rfl ?_ | refine q_cond_f rfl ?_ | refine q_block ?_ | refine q_exit ?_ | refine q_ret ?_ | refine q_skip ?_)
      | refine q_normal ?_
      | refine q_seq_exit ?_
      | refine q_loop_exit ?_
      | refine q_loop_ret ?_
      | refine q_seq_ret ?_
      | refine q_block_normal ?_
      | refine q_block_ret ?_
      | refine q_block_hit ?_
      | refine q_block_miss rfl ?_
      )
    rotate_right 1
    · rw [List.drop_eq_nil_of_le (by omega)] at ha hb
      simp only [cnt, Int.add_zero] at ha hb
      (refine q_fin hwf (res_cons (res_cellA rfl (by repeat (first | exact get_same | refine get_other (by omega) ?_)) (Nat.le_of_ble_eq_true rfl) (by first | (simp only [Lk.pv, List.take_zero, List.take_succ_cons, List.take_nil, List.drop_zero, List.drop_succ_cons, List.drop_nil, List.nil_append, List.cons_append, List.append_nil, List.map_cons, List.map_nil, List.replicate_succ, List.replicate_zero, List.flatten_cons, List.flatten_nil, Nat.zero_add, Nat.reduceAdd, chunk]; rfl) | rfl)) res_nil) ?_ ?_ ?_ ?_; (focus (rw [← ha, ← hb]; rfl)); (focus (simp only [AV.under, AV.underL, Tok.under, and_self])); (focus (first | trivial | (simp only [keysP, and_true]; omega) | (repeat' (first | exact trivial | refine ⟨by omega, ?_⟩ | refine keys_vecB (fun k hk => by have := htk k hk; omega) ?_)))); omega)
    all_goals
      have hsg := sgU_eq x y (l[i]'(by omega))
      first
        | (have hz : (i : Int) = but ∨ sgU ⟨x, y⟩ (l[i]'(by omega)) = 0 := by (first | (left; omega) | (right; rw [hsg]; (repeat' split) <;> omega))
           have hv := fun f : Lk → Int => hv0 (v := f (l[i]'(by omega))) hz
           have ha' := cnt_step (by omega) ha (hv _)
           have hb' := cnt_step (by omega) hb (hv _)
           (refine q_loop_normal ⟨i + 1, n', na, nb⟩ ⟨by simp only; omega, by simp only; omega, by simp only; omega, by simp only; omega, by simp only; omega, by simp only; omega⟩ (by simp only; omega) ?_; dsimp only; exact wk_mk hwf (by omega) (by omega) (by first | trivial | (simp only [keysP, and_true]; omega) | (repeat' (first | exact trivial | refine ⟨by omega, ?_⟩ | refine keys_vecB (fun k hk => by have := htk k hk; omega) ?_))) (by repeat' (first | exact trivial | refine ⟨?_, ?_⟩ | exact get_same | omega | refine get_other (by omega) ?_ | exact underL_mono (by omega) hu1)) (by simp only [fitsP]; repeat' (first | exact trivial | refine ⟨?_, ?_⟩ | exact .same trivial | exact wkV_out0 | exact wkV_out_eq hout (by omega) | exact wkV_ptr (by omega) | exact wkV_mapv (by omega) | exact .same (under_mono (by omega) hu.1) | exact .same (under_mono (by omega) hu.2.1) | exact .same (under_mono (by omega) hu.2.2.1) | exact wkV_int (by omega) | exact wkV_int (by simp) | exact .no _ _ _))))
        | (have hz : (i : Int) ≠ but ∧ sgU ⟨x, y⟩ (l[i]'(by omega)) = -1 := by (refine And.intro ?_ ?_; omega; rw [hsg]; (repeat' split) <;> omega)
           have hv := fun f : Lk → Int => hvn (v := f (l[i]'(by omega))) hz
           have ha' := cnt_step (by omega) ha (hv _)
           have hb' := cnt_step (by omega) hb (hv _)
           (refine q_loop_normal ⟨i + 1, n', na - (l[i]'(by omega)).a, nb - (l[i]'(by omega)).b⟩ ⟨by simp only; omega, by simp only; omega, by simp only; omega, by simp only; omega, by simp only; omega, by simp only; omega⟩ (by simp only; omega) ?_; dsimp only; exact wk_mk hwf (by omega) (by omega) (by first | trivial | (simp only [keysP, and_true]; omega) | (repeat' (first | exact trivial | refine ⟨by omega, ?_⟩ | refine keys_vecB (fun k hk => by have := htk k hk; omega) ?_))) (by repeat' (first | exact trivial | refine ⟨?_, ?_⟩ | exact get_same | omega | refine get_other (by omega) ?_ | exact underL_mono (by omega) hu1)) (by simp only [fitsP]; repeat' (first | exact trivial | refine ⟨?_, ?_⟩ | exact .same trivial | exact wkV_out0 | exact wkV_out_eq hout (by omega) | exact wkV_ptr (by omega) | exact wkV_mapv (by omega) | exact .same (under_mono (by omega) hu.1) | exact .same (under_mono (by omega) hu.2.1) | exact .same (under_mono (by omega) hu.2.2.1) | exact wkV_int (by omega) | exact wkV_int (by simp) | exact .no _ _ _))))
end Go.Proofs.Ytinenepjloodcaa

