/- CONTRACTS: layer 17's statement PickOrders: it answers true. -/
import Derived.Test.YtakjakmhecfmiaaCwSPe
set_option linter.unusedVariables false
set_option linter.unusedSimpArgs false
set_option maxHeartbeats 8000000
set_option maxRecDepth 20000
namespace Go.Proofs.Ytakjakmhecfmiaa
open Go.Cw
attribute [local irreducible] aops awp seqQ blockQ seqC loopQ endQ getB outV vecB

theorem alA (S : St) : ASpec Try.prog 7 [.agg [.sl true [] .full, .sl true [] .full, vi 0, vi 0, vi 0, vi 0], .p (.sl false [[.int .i64 0, .int .i64 0, .int .i64 2, .int .i64 0, .int .i64 (-1), .int .i64 0]]), .p (.sl false [[.int .i64 0, .int .i64 0, .int .i64 1, .int .i64 0]])] S (.p (.sl false [[.int .i64 2, .int .i64 0, .int .i64 0, .int .i64 0]])) S :=
  (specP7 S (.sl true [] .full) (.sl true [] .full) 0 0 0 0 false false [⟨0, 0, 2, 0, -1, 0⟩] [⟨0, 0, 1, 0⟩] (by simp)).res (by kernel_rfl)
theorem alB (S : St) : ASpec Try.prog 7 [.agg [.sl true [] .full, .sl true [] .full, vi 1, vi 0, vi 0, vi 0], .p (.sl false [[.int .i64 0, .int .i64 0, .int .i64 2, .int .i64 0, .int .i64 (-1), .int .i64 0]]), .p (.sl false [[.int .i64 0, .int .i64 0, .int .i64 1, .int .i64 0]])] S (.p (.sl true [])) S :=
  (specP7 S (.sl true [] .full) (.sl true [] .full) 1 0 0 0 false false [⟨0, 0, 2, 0, -1, 0⟩] [⟨0, 0, 1, 0⟩] (by simp)).res (by kernel_rfl)
theorem alC (S : St) : ASpec Try.prog 7 [.agg [.sl true [] .full, .sl true [] .full, vi 0, vi 0, vi 0, vi 0], .p (.sl false [[.int .i64 0, .int .i64 0, .int .i64 2, .int .i64 0, .int .i64 (-1), .int .i64 0]]), .p (.sl true [])] S (.p (.sl true [])) S :=
  (specP7 S (.sl true [] .full) (.sl true [] .full) 0 0 0 0 false true [⟨0, 0, 2, 0, -1, 0⟩] [] (by simp)).res (by kernel_rfl)
theorem alD (S : St) : ASpec Try.prog 15 [.p (.sl false [[.int .i64 2, .int .i64 0, .int .i64 0, .int .i64 0]])] S (vb false) S := (specP15 S false [⟨2, 0, 0, 0⟩] (by simp)).res (by kernel_rfl)
theorem alE (S : St) : ASpec Try.prog 15 [.p (.sl false [[.int .i64 0, .int .i64 0, .int .i64 2, .int .i64 0], [.int .i64 2, .int .i64 0, .int .i64 0, .int .i64 0]])] S (vb true) S := (specP15 S false [⟨0, 0, 2, 0⟩, ⟨2, 0, 0, 0⟩] (by simp)).res (by kernel_rfl)
theorem alF (S : St) : ASpec Try.prog 9 [.agg [vi 2, vi 0, vi 0, vi 0], .agg [vi 0, vi 0, vi 2, vi 0]] S (vi 1) S := (specP9 S 2 0 0 0 0 0 2 0).res (by kernel_rfl)

theorem specP6 (S : St) : ASpec Try.prog 6 [] S (vb true) S := by
  refine q_fun hmix cP6 rfl (Nat.le_of_ble_eq_true rfl) fun hwf hu => ?_
  repeat' (first
    | refine q_eql_t rfl rfl rfl ?_
    | refine q_eqA_t rfl rfl rfl ?_
    | refine q_lenS_c rfl rfl ?_
    | refine q_iadrS rfl rfl (by decide) rfl rfl ?_
    | refine q_call (fun S => ASpec.fg (alA S)) ?_
    | refine q_call (fun S => ASpec.fg (alB S)) ?_
    | refine q_call (fun S => ASpec.fg (alC S)) ?_
    | refine q_call (fun S => ASpec.fg (alD S)) ?_
    | refine q_call (fun S => ASpec.fg (alE S)) ?_
    | refine q_call (fun S => alF S) ?_
    | refine q_seq ?_
    | (refine q_reg fun n' hn' => ?_; simp only [List.length_cons, List.length_nil, Nat.zero_add, Nat.reduceAdd] at hn')
    | refine q_mov_p rfl ?_
    | refine q_on rfl ?_
    | refine q_off rfl rfl ?_
    | refine q_off_tup rfl ?_
    | refine q_mov_agg rfl ?_
    | refine q_eql rfl rfl (fun h => ?_) (fun h => ?_)
    | refine q_pick_t rfl ?_
    | refine q_pick_f rfl ?_
    | refine q_nil_drawn trivial ?_
    | refine q_nil_drawn (sep1 rfl rfl (by omega) trivial) ?_
    | refine q_nil_drawn (sep1 rfl rfl (by omega) (sep1 rfl rfl (by omega) trivial)) ?_
    | refine q_nil ?_
    | refine q_normal ?_
    | refine q_ret ?_
    | refine q_skip ?_
    | refine q_seq_ret ?_
    | refine q_not rfl rfl ?_
    | (refine q_alloc fun k hk => ?_)
    | refine q_mov_ptr rfl ?_
    | refine q_mov_ref rfl ?_
    | refine q_mov_sl rfl ?_
    | refine q_mov_fn rfl ?_
    | refine q_loadA_ref rfl (Nat.le_of_ble_eq_true rfl) (by first | (simp only [Lk.pv, Sd.pv, Hf.pv, List.take_zero, List.take_succ_cons, List.take_nil, List.drop_zero, List.drop_succ_cons, List.drop_nil, List.nil_append, List.cons_append, List.append_nil, List.map_cons, List.map_nil, List.replicate_succ, List.replicate_zero, List.flatten_cons, List.flatten_nil, Nat.zero_add, Nat.reduceAdd, chunk]; rfl) | rfl) ?_
    | refine q_loadA rfl (by repeat (first | exact get_same | refine get_other (by omega) ?_)) (Nat.le_of_ble_eq_true rfl) (by first | (simp only [Lk.pv, Sd.pv, Hf.pv, List.take_zero, List.take_succ_cons, List.take_nil, List.drop_zero, List.drop_succ_cons, List.drop_nil, List.nil_append, List.cons_append, List.append_nil, List.map_cons, List.map_nil, List.replicate_succ, List.replicate_zero, List.flatten_cons, List.flatten_nil, Nat.zero_add, Nat.reduceAdd, chunk]; rfl) | rfl) ?_
    | refine q_store_agg rfl (by repeat (first | exact get_same | refine get_other (by omega) ?_)) rfl rfl (Nat.le_of_ble_eq_true rfl) (by first | (simp only [Lk.pv, Sd.pv, Hf.pv, List.take_zero, List.take_succ_cons, List.take_nil, List.drop_zero, List.drop_succ_cons, List.drop_nil, List.nil_append, List.cons_append, List.append_nil, List.map_cons, List.map_nil, List.replicate_succ, List.replicate_zero, List.flatten_cons, List.flatten_nil, Nat.zero_add, Nat.reduceAdd, chunk]; rfl) | rfl) ?_
    | refine q_store_p rfl (by repeat (first | exact get_same | refine get_other (by omega) ?_)) rfl (Nat.le_of_ble_eq_true rfl) (by first | (simp only [Lk.pv, Sd.pv, Hf.pv, List.take_zero, List.take_succ_cons, List.take_nil, List.drop_zero, List.drop_succ_cons, List.drop_nil, List.nil_append, List.cons_append, List.append_nil, List.map_cons, List.map_nil, List.replicate_succ, List.replicate_zero, List.flatten_cons, List.flatten_nil, Nat.zero_add, Nat.reduceAdd, chunk]; rfl) | rfl) ?_
    | refine q_store_sl rfl (by repeat (first | exact get_same | refine get_other (by omega) ?_)) rfl (Nat.le_of_ble_eq_true rfl) (by first | (simp only [Lk.pv, Sd.pv, Hf.pv, List.take_zero, List.take_succ_cons, List.take_nil, List.drop_zero, List.drop_succ_cons, List.drop_nil, List.nil_append, List.cons_append, List.append_nil, List.map_cons, List.map_nil, List.replicate_succ, List.replicate_zero, List.flatten_cons, List.flatten_nil, Nat.zero_add, Nat.reduceAdd, chunk]; rfl) | rfl) ?_
    | refine q_store_fn rfl (by repeat (first | exact get_same | refine get_other (by omega) ?_)) rfl (Nat.le_of_ble_eq_true rfl) (by first | (simp only [Lk.pv, Sd.pv, Hf.pv, List.take_zero, List.take_succ_cons, List.take_nil, List.drop_zero, List.drop_succ_cons, List.drop_nil, List.nil_append, List.cons_append, List.append_nil, List.map_cons, List.map_nil, List.replicate_succ, List.replicate_zero, List.flatten_cons, List.flatten_nil, Nat.zero_add, Nat.reduceAdd, chunk]; rfl) | rfl) ?_
    | refine q_lenS_map rfl ?_
    | refine q_lenS rfl ?_
    | refine q_nil_drawn trivial ?_
    | (refine q_drawn fun n' hn' => ?_; simp only [List.length_cons, List.length_nil, Nat.zero_add, Nat.reduceAdd] at hn')
    | refine q_iadrS_nat rfl rfl (get_map (by omega)) rfl ?_
    | (apply q_build; (focus (repeat' (first | exact fill_nil | (apply fill_p rfl (Nat.le_of_ble_eq_true rfl); (focus (first | (simp only [Lk.pv, Sd.pv, Hf.pv, List.take_zero, List.take_succ_cons, List.take_nil, List.drop_zero, List.drop_succ_cons, List.drop_nil, List.nil_append, List.cons_append, List.append_nil, List.map_cons, List.map_nil, List.replicate_succ, List.replicate_zero, List.flatten_cons, List.flatten_nil, Nat.zero_add, Nat.reduceAdd, chunk]; rfl) | rfl))) | (apply fill_agg; (focus rfl); (focus rfl); (focus exact Nat.le_of_ble_eq_true rfl); (focus (first | (simp only [Lk.pv, Sd.pv, Hf.pv, List.take_zero, List.take_succ_cons, List.take_nil, List.drop_zero, List.drop_succ_cons, List.drop_nil, List.nil_append, List.cons_append, List.append_nil, List.map_cons, List.map_nil, List.replicate_succ, List.replicate_zero, List.flatten_cons, List.flatten_nil, Nat.zero_add, Nat.reduceAdd, chunk]; rfl) | rfl))) | (apply fill_sl rfl (Nat.le_of_ble_eq_true rfl); (focus (first | (simp only [Lk.pv, Sd.pv, Hf.pv, List.take_zero, List.take_succ_cons, List.take_nil, List.drop_zero, List.drop_succ_cons, List.drop_nil, List.nil_append, List.cons_append, List.append_nil, List.map_cons, List.map_nil, List.replicate_succ, List.replicate_zero, List.flatten_cons, List.flatten_nil, Nat.zero_add, Nat.reduceAdd, chunk]; rfl) | rfl))) | (apply fill_fn rfl (Nat.le_of_ble_eq_true rfl); (focus (first | (simp only [Lk.pv, Sd.pv, Hf.pv, List.take_zero, List.take_succ_cons, List.take_nil, List.drop_zero, List.drop_succ_cons, List.drop_nil, List.nil_append, List.cons_append, List.append_nil, List.map_cons, List.map_nil, List.replicate_succ, List.replicate_zero, List.flatten_cons, List.flatten_nil, Nat.zero_add, Nat.reduceAdd, chunk]; rfl) | rfl))) | (apply fill_ptr rfl (Nat.le_of_ble_eq_true rfl); (focus (first | (simp only [Lk.pv, Sd.pv, Hf.pv, List.take_zero, List.take_succ_cons, List.take_nil, List.drop_zero, List.drop_succ_cons, List.drop_nil, List.nil_append, List.cons_append, List.append_nil, List.map_cons, List.map_nil, List.replicate_succ, List.replicate_zero, List.flatten_cons, List.flatten_nil, Nat.zero_add, Nat.reduceAdd, chunk]; rfl) | rfl)))))))
    | refine q_mov_tup rfl ?_
    | (apply q_bslice; (focus (repeat' (first | exact fill_nil | (apply fill_p rfl (Nat.le_of_ble_eq_true rfl); (focus (first | (simp only [Lk.pv, Sd.pv, Hf.pv, List.take_zero, List.take_succ_cons, List.take_nil, List.drop_zero, List.drop_succ_cons, List.drop_nil, List.nil_append, List.cons_append, List.append_nil, List.map_cons, List.map_nil, List.replicate_succ, List.replicate_zero, List.flatten_cons, List.flatten_nil, Nat.zero_add, Nat.reduceAdd, chunk]; rfl) | rfl))) | (apply fill_agg; (focus rfl); (focus rfl); (focus exact Nat.le_of_ble_eq_true rfl); (focus (first | (simp only [Lk.pv, Sd.pv, Hf.pv, List.take_zero, List.take_succ_cons, List.take_nil, List.drop_zero, List.drop_succ_cons, List.drop_nil, List.nil_append, List.cons_append, List.append_nil, List.map_cons, List.map_nil, List.replicate_succ, List.replicate_zero, List.flatten_cons, List.flatten_nil, Nat.zero_add, Nat.reduceAdd, chunk]; rfl) | rfl))) | (apply fill_sl rfl (Nat.le_of_ble_eq_true rfl); (focus (first | (simp only [Lk.pv, Sd.pv, Hf.pv, List.take_zero, List.take_succ_cons, List.take_nil, List.drop_zero, List.drop_succ_cons, List.drop_nil, List.nil_append, List.cons_append, List.append_nil, List.map_cons, List.map_nil, List.replicate_succ, List.replicate_zero, List.flatten_cons, List.flatten_nil, Nat.zero_add, Nat.reduceAdd, chunk]; rfl) | rfl))) | (apply fill_fn rfl (Nat.le_of_ble_eq_true rfl); (focus (first | (simp only [Lk.pv, Sd.pv, Hf.pv, List.take_zero, List.take_succ_cons, List.take_nil, List.drop_zero, List.drop_succ_cons, List.drop_nil, List.nil_append, List.cons_append, List.append_nil, List.map_cons, List.map_nil, List.replicate_succ, List.replicate_zero, List.flatten_cons, List.flatten_nil, Nat.zero_add, Nat.reduceAdd, chunk]; rfl) | rfl))) | (apply fill_ptr rfl (Nat.le_of_ble_eq_true rfl); (focus (first | (simp only [Lk.pv, Sd.pv, Hf.pv, List.take_zero, List.take_succ_cons, List.take_nil, List.drop_zero, List.drop_succ_cons, List.drop_nil, List.nil_append, List.cons_append, List.append_nil, List.map_cons, List.map_nil, List.replicate_succ, List.replicate_zero, List.flatten_cons, List.flatten_nil, Nat.zero_add, Nat.reduceAdd, chunk]; rfl) | rfl)))))); (focus rfl); (focus (first | (simp only [Lk.pv, Sd.pv, Hf.pv, List.take_zero, List.take_succ_cons, List.take_nil, List.drop_zero, List.drop_succ_cons, List.drop_nil, List.nil_append, List.cons_append, List.append_nil, List.map_cons, List.map_nil, List.replicate_succ, List.replicate_zero, List.flatten_cons, List.flatten_nil, Nat.zero_add, Nat.reduceAdd, chunk]; rfl) | rfl)))
    )
  all_goals (refine q_fin_bool hwf rfl ?_ ?_ ?_; (focus (rfl)); (focus (first | trivial | (simp only [keysP, and_true]; omega) | (repeat' (first | exact trivial | refine ⟨by omega, ?_⟩ | refine keys_vecB (fun k hk => by have := htk k hk; omega) ?_)))); omega)
end Go.Proofs.Ytakjakmhecfmiaa

