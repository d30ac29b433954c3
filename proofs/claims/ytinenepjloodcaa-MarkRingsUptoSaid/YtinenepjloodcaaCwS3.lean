/- CONTRACTS: links. -/
import Derived.Test.YtinenepjloodcaaCwS2
set_option linter.unusedVariables false
set_option linter.unusedSimpArgs false
set_option maxHeartbeats 4000000
namespace Go.Proofs.Ytinenepjloodcaa
open Go.Cw
attribute [local irreducible] aops awp seqQ blockQ seqC loopQ endQ getB

structure Lk where
  px : Int
  py : Int
  qx : Int
  qy : Int
  a : Int
  b : Int
deriving DecidableEq
def Lk.pv (k : Lk) : List PV := [.int .i64 k.px, .int .i64 k.py, .int .i64 k.qx, .int .i64 k.qy, .int .i64 k.a, .int .i64 k.b]
def Lk.p (k : Lk) : Pt := ⟨k.px, k.py⟩
def Lk.q (k : Lk) : Pt := ⟨k.qx, k.qy⟩

def findFrom {α : Type} (p : α → Bool) : List α → Nat → Int
  | [], _ => -1
  | x :: xs, i => if p x then i else findFrom p xs (i + 1)
theorem findFrom_any {α : Type} (p : α → Bool) : ∀ (l : List α) (i : Nat), decide (0 ≤ findFrom p l i) = l.any p
  | [], i => by simp [findFrom]
  | x :: xs, i => by
    simp only [findFrom, List.any_cons]
    by_cases h : p x = true
    · simp [h]
    · simp [h, findFrom_any p xs (i + 1)]

theorem spec171 (S : St) {α : Type} (pv : α → List PV) (hw : ∀ a, (pv a).length = 6) (nl : Bool) (l : List α) (hl : l.length < 4611686018427387904) (f : Nat) (caps : List AV) (p : α → Bool) (hc : callable Try.prog f = true)
    (hf : ∀ a, ∀ S, ASpec Try.prog f ([.agg ((pv a).map .p)] ++ caps) S (vb (p a)) S) : ASpec Try.prog 47 [.p (.sl nl (l.map pv)), .fn f caps] S (vi (findFrom p l 0)) S := by
  refine q_fun hmix c171 rfl (Nat.le_of_ble_eq_true rfl) fun hwf hu => ?_
  repeat' (first
    | (refine i_ops ?_; first
      | (refine i_op ?_; first
        | (refine i_mov ?_; first | refine q_mov_p rfl ?_ | refine q_mov_agg rfl ?_ | refine q_mov_ptr rfl ?_ | refine q_mov_ref rfl ?_ | refine q_mov_sl rfl ?_ | refine q_mov_fn rfl ?_ | refine q_mov_out rfl ?_ | refine q_mov_tup rfl ?_)
        | (refine i_loadA ?_; first | (apply q_loadA_ref; (focus exact rfl); (focus exact Nat.le_of_ble_eq_true rfl); (focus (first | (simp only [List.take_zero, List.take_succ_cons, List.take_nil, List.drop_zero, List.drop_succ_cons, List.drop_nil, List.nil_append, List.cons_append, List.append_nil, List.map_cons, List.map_nil, List.replicate_succ, List.replicate_zero, List.flatten_cons, List.flatten_nil, Nat.zero_add, Nat.reduceAdd, chunk]; rfl) | rfl))) | (apply q_loadA; (focus exact rfl); (focus (repeat (first | exact get_same | refine get_other (by omega) ?_))); (focus exact Nat.le_of_ble_eq_true rfl); (focus (first | (simp only [List.take_zero, List.take_succ_cons, List.take_nil, List.drop_zero, List.drop_succ_cons, List.drop_nil, List.nil_append, List.cons_append, List.append_nil, List.map_cons, List.map_nil, List.replicate_succ, List.replicate_zero, List.flatten_cons, List.flatten_nil, Nat.zero_add, Nat.reduceAdd, chunk]; rfl) | rfl))))
        | (refine i_iadrS ?_; first | (apply q_iadrS_nat; (focus exact rfl); (focus exact rfl); (focus exact get_map (by omega)); (focus exact rfl)))
        | (refine i_lenS ?_; first | refine q_lenS_map rfl ?_ | refine q_lenS rfl ?_)
        | (refine i_arith _ ?_; first
          | (refine i_arith .add ?_; first | (apply q_add; (focus exact rfl); (focus exact rfl); (focus exact wrap64 (by omega))))
          | (refine i_arith .lss ?_; first | refine q_lss rfl rfl (fun h => ?_) (fun h => ?_)))))
    | refine q_nil ?_
    | (refine i_awp ?_; first | refine q_seq ?_ | (refine q_reg fun n' hn' => ?_; simp only [List.length_cons, List.length_nil, Nat.zero_add, Nat.reduceAdd] at hn') | refine q_cond_t rfl ?_ | refine q_cond_f rfl ?_ | refine q_block ?_ | refine q_exit ?_ | refine q_ret ?_ | refine q_skip ?_)
    | refine q_normal ?_
    | refine q_seq_exit ?_
    | refine q_loop_exit ?_
    | refine q_loop_ret ?_
    | refine q_seq_ret ?_
    | refine q_block_normal ?_
    | refine q_block_ret ?_
    | refine q_block_hit ?_
    | refine q_block_miss rfl ?_
    )
  refine q_loop (γ := Nat) (fun i => [(0, .p (.sl nl (l.map pv))), (1, .fn f caps), (6, .p (.sl nl (l.map pv))), (7, vi (l.length : Nat)), (8, vi i)]) (fun _ => ST S n' []) (fun i => i ≤ l.length ∧ findFrom p l 0 = findFrom p (l.drop i) i) (fun i => l.length - i) 0 (by simp) ?_ ?_
  · exact wk_mk hwf (by omega) (by omega) (by first | trivial | (simp only [keysP, and_true]; omega) | (repeat' (first | exact trivial | refine ⟨by omega, ?_⟩ | refine keys_vecB (fun k hk => by have := htk k hk; omega) ?_))) trivial (by simp only [fitsP]; repeat' (first | exact trivial | refine ⟨?_, ?_⟩ | exact .same trivial | exact wkV_out0 | exact wkV_out_eq hout (by omega) | exact wkV_ptr (by omega) | exact wkV_mapv (by omega) | exact .same (under_mono (by omega) hu.1) | exact .same (under_mono (by omega) hu.2.1) | exact .same (under_mono (by omega) hu.2.2.1) | exact wkV_int (by omega) | exact wkV_int (by simp) | exact .no _ _ _))
  · rintro i ⟨hi, hor⟩
    repeat' (first
      | (refine i_ops ?_; first
        | (refine i_iadrS ?_; refine q_iadrS_nat rfl rfl (get_map (by omega)) (hw _) ?_)
        | (refine i_loadA ?_; refine q_loadA_row rfl (hw _) ?_)
        | (refine i_callv ?_; refine q_callv_b rfl hc (fun S => hf _ S) (fun hb => ?_) (fun hb => ?_))
        | (refine i_op ?_; first
          | (refine i_mov ?_; first | refine q_mov_p rfl ?_ | refine q_mov_agg rfl ?_ | refine q_mov_ptr rfl ?_ | refine q_mov_ref rfl ?_ | refine q_mov_sl rfl ?_ | refine q_mov_fn rfl ?_ | refine q_mov_out rfl ?_ | refine q_mov_tup rfl ?_)
          | (refine i_loadA ?_; first | (apply q_loadA_ref; (focus exact rfl); (focus exact Nat.le_of_ble_eq_true rfl); (focus (first | (simp only [List.take_zero, List.take_succ_cons, List.take_nil, List.drop_zero, List.drop_succ_cons, List.drop_nil, List.nil_append, List.cons_append, List.append_nil, List.map_cons, List.map_nil, List.replicate_succ, List.replicate_zero, List.flatten_cons, List.flatten_nil, Nat.zero_add, Nat.reduceAdd, chunk]; rfl) | rfl))) | (apply q_loadA; (focus exact rfl); (focus (repeat (first | exact get_same | refine get_other (by omega) ?_))); (focus exact Nat.le_of_ble_eq_true rfl); (focus (first | (simp only [List.take_zero, List.take_succ_cons, List.take_nil, List.drop_zero, List.drop_succ_cons, List.drop_nil, List.nil_append, List.cons_append, List.append_nil, List.map_cons, List.map_nil, List.replicate_succ, List.replicate_zero, List.flatten_cons, List.flatten_nil, Nat.zero_add, Nat.reduceAdd, chunk]; rfl) | rfl))))
          | (refine i_iadrS ?_; first | (apply q_iadrS_nat; (focus exact rfl); (focus exact rfl); (focus exact get_map (by omega)); (focus exact rfl)))
          | (refine i_lenS ?_; first | refine q_lenS_map rfl ?_ | refine q_lenS rfl ?_)
          | (refine i_arith _ ?_; first
            | (refine i_arith .add ?_; first | (apply q_add; (focus exact rfl); (focus exact rfl); (focus exact wrap64 (by omega))))
            | (refine i_arith .lss ?_; first | refine q_lss rfl rfl (fun h => ?_) (fun h => ?_)))))
      | refine q_nil ?_
      | (refine i_awp ?_; first | refine q_seq ?_ | (refine q_reg fun n' hn' => ?_; simp only [List.length_cons, List.length_nil, Nat.zero_add, Nat.reduceAdd] at hn') | refine q_cond_t rfl ?_ | refine q_cond_f rfl ?_ | refine q_block ?_ | refine q_exit ?_ | refine q_ret ?_ | refine q_skip ?_)
      | refine q_normal ?_
      | refine q_seq_exit ?_
      | refine q_loop_exit ?_
      | refine q_loop_ret ?_
      | refine q_seq_ret ?_
      | refine q_block_normal ?_
      | refine q_block_ret ?_
      | refine q_block_hit ?_
      | refine q_block_miss rfl ?_
      )
    · (refine q_fin_int hwf rfl ?_ ?_ ?_; (focus (rw [hor, drop_cons (by omega)]; simp [findFrom, hb])); (focus (first | trivial | (simp only [keysP, and_true]; omega) | (repeat' (first | exact trivial | refine ⟨by omega, ?_⟩ | refine keys_vecB (fun k hk => by have := htk k hk; omega) ?_)))); omega)
    · refine q_loop_normal (i + 1) ⟨by omega, by rw [hor, drop_cons (by omega)]; simp [findFrom, hb]⟩ (by omega) (wk_mk hwf (by omega) (by omega) (by first | trivial | (simp only [keysP, and_true]; omega) | (repeat' (first | exact trivial | refine ⟨by omega, ?_⟩ | refine keys_vecB (fun k hk => by have := htk k hk; omega) ?_))) trivial (by simp only [fitsP]; repeat' (first | exact trivial | refine ⟨?_, ?_⟩ | exact .same trivial | exact wkV_out0 | exact wkV_out_eq hout (by omega) | exact wkV_ptr (by omega) | exact wkV_mapv (by omega) | exact .same (under_mono (by omega) hu.1) | exact .same (under_mono (by omega) hu.2.1) | exact .same (under_mono (by omega) hu.2.2.1) | exact wkV_int (by omega) | exact wkV_int (by simp) | exact .no _ _ _)))
    · (refine q_fin_int hwf rfl ?_ ?_ ?_; (focus (rw [hor, List.drop_eq_nil_of_le (by omega)]; rfl)); (focus (first | trivial | (simp only [keysP, and_true]; omega) | (repeat' (first | exact trivial | refine ⟨by omega, ?_⟩ | refine keys_vecB (fun k hk => by have := htk k hk; omega) ?_)))); omega)

theorem spec97 (S : St) {α : Type} (pv : α → List PV) (hw : ∀ a, (pv a).length = 6) (nl : Bool) (l : List α) (hl : l.length < 4611686018427387904) (f : Nat) (caps : List AV) (p : α → Bool) (hc : callable Try.prog f = true)
    (hf : ∀ a, ∀ S, ASpec Try.prog f ([.agg ((pv a).map .p)] ++ caps) S (vb (p a)) S) : ASpec Try.prog 26 [.p (.sl nl (l.map pv)), .fn f caps] S (vb (l.any p)) S := by
  refine q_fun hmix c97 rfl (Nat.le_of_ble_eq_true rfl) fun hwf hu => ?_
  repeat' (first
    | (refine i_ops ?_; first
      | (refine i_call 47 ?_; refine q_call (fun S => ASpec.fg (spec171 S pv hw nl l hl f caps p hc hf)) ?_)
      | (refine i_op ?_; first
        | (refine i_mov ?_; first | refine q_mov_p rfl ?_ | refine q_mov_agg rfl ?_ | refine q_mov_ptr rfl ?_ | refine q_mov_ref rfl ?_ | refine q_mov_sl rfl ?_ | refine q_mov_fn rfl ?_ | refine q_mov_out rfl ?_ | refine q_mov_tup rfl ?_)
        | (refine i_arith _ ?_; first
          | (refine i_arith .geq ?_; first | refine q_geq rfl rfl (fun h => ?_) (fun h => ?_)))))
    | refine q_nil ?_
    | (refine i_awp ?_; first | refine q_seq ?_ | (refine q_reg fun n' hn' => ?_; simp only [List.length_cons, List.length_nil, Nat.zero_add, Nat.reduceAdd] at hn') | refine q_ret ?_)
    | refine q_normal ?_
    | refine q_seq_ret ?_
    )
  all_goals (refine q_fin_bool hwf rfl ?_ ?_ ?_; (focus (rw [← findFrom_any p l 0]; simp; omega)); (focus (first | trivial | (simp only [keysP, and_true]; omega) | (repeat' (first | exact trivial | refine ⟨by omega, ?_⟩ | refine keys_vecB (fun k hk => by have := htk k hk; omega) ?_)))); omega)

def mayL (k : Lk) : Bool := small k.px 134217728 && small k.py 134217728 && small k.qx 134217728 && small k.qy 134217728 && small k.a 1048576 && small k.b 1048576 && decide (gcmp ⟨k.px, k.py⟩ ⟨k.qx, k.qy⟩ < 0)
theorem spec99 (S : St) (e : Lk) : ASpec Try.prog 28 [.agg (e.pv.map .p)] S (vb (mayL e)) S := by
  refine q_fun hmix c99 rfl (Nat.le_of_ble_eq_true rfl) fun hwf hu => ?_
  repeat' (first
    | (refine i_ops ?_; first
      | (refine i_call 32 ?_; refine q_call_b (fun S => spec103 S _ _ (by omega) (by omega)) (fun hr => ?_) (fun hr => ?_))
      | (refine i_call 18 ?_; refine q_call (fun S => spec42 S _ _ _ _) ?_)
      | (refine i_op ?_; first
        | (refine i_mov ?_; first | refine q_mov_p rfl ?_ | refine q_mov_agg rfl ?_ | refine q_mov_ptr rfl ?_ | refine q_mov_ref rfl ?_ | refine q_mov_sl rfl ?_ | refine q_mov_fn rfl ?_ | refine q_mov_out rfl ?_ | refine q_mov_tup rfl ?_)
        | (refine i_load1 ?_; first | (apply q_load1_ref; (focus exact rfl); (focus exact rfl)) | (apply q_load1; (focus exact rfl); (focus (repeat (first | exact get_same | refine get_other (by omega) ?_))); (focus exact rfl)))
        | (refine i_loadA ?_; first | (apply q_loadA_ref; (focus exact rfl); (focus exact Nat.le_of_ble_eq_true rfl); (focus (first | (simp only [List.take_zero, List.take_succ_cons, List.take_nil, List.drop_zero, List.drop_succ_cons, List.drop_nil, List.nil_append, List.cons_append, List.append_nil, List.map_cons, List.map_nil, List.replicate_succ, List.replicate_zero, List.flatten_cons, List.flatten_nil, Nat.zero_add, Nat.reduceAdd, chunk]; rfl) | rfl))) | (apply q_loadA; (focus exact rfl); (focus (repeat (first | exact get_same | refine get_other (by omega) ?_))); (focus exact Nat.le_of_ble_eq_true rfl); (focus (first | (simp only [List.take_zero, List.take_succ_cons, List.take_nil, List.drop_zero, List.drop_succ_cons, List.drop_nil, List.nil_append, List.cons_append, List.append_nil, List.map_cons, List.map_nil, List.replicate_succ, List.replicate_zero, List.flatten_cons, List.flatten_nil, Nat.zero_add, Nat.reduceAdd, chunk]; rfl) | rfl))))
        | (refine i_fadr ?_; first | refine q_fadr rfl rfl ?_ | refine q_fadr_ref rfl rfl ?_)
        | (refine i_pick ?_; first | refine q_pick_t rfl ?_ | refine q_pick_f rfl ?_)
        | (refine i_box ?_; first | (refine q_box_agg rfl fun k hk => ?_) | (refine q_box_p rfl fun k hk => ?_) | (refine q_box_sl rfl fun k hk => ?_) | (refine q_box_fn rfl fun k hk => ?_))
        | (refine i_arith _ ?_; first
          | (refine i_arith .lss ?_; first | refine q_lss rfl rfl (fun h => ?_) (fun h => ?_))))
      | (refine i_guard ?_; first | refine q_on rfl ?_ | refine q_off rfl rfl ?_ | refine q_off_tup rfl ?_))
    | refine q_nil ?_
    | (refine i_awp ?_; first | refine q_seq ?_ | (refine q_reg fun n' hn' => ?_; simp only [List.length_cons, List.length_nil, Nat.zero_add, Nat.reduceAdd] at hn') | refine q_ret ?_)
    | refine q_normal ?_
    | refine q_seq_ret ?_
    )
  all_goals (refine q_fin_bool hwf rfl ?_ ?_ ?_; (focus (simp [mayL, *])); (focus (first | trivial | (simp only [keysP, and_true]; omega) | (repeat' (first | exact trivial | refine ⟨by omega, ?_⟩ | refine keys_vecB (fun k hk => by have := htk k hk; omega) ?_)))); omega)

theorem spec98 (S : St) (e : Lk) : ASpec Try.prog 27 [.agg (e.pv.map .p)] S (vb (!mayL e)) S := by
  refine q_fun hmix c98 rfl (Nat.le_of_ble_eq_true rfl) fun hwf hu => ?_
  repeat' (first
    | (refine i_ops ?_; first
      | (refine i_call 28 ?_; refine q_call_b (fun S => spec99 S e) (fun hr => ?_) (fun hr => ?_))
      | (refine i_op ?_; first
        | (refine i_mov ?_; first | refine q_mov_p rfl ?_ | refine q_mov_agg rfl ?_ | refine q_mov_ptr rfl ?_ | refine q_mov_ref rfl ?_ | refine q_mov_sl rfl ?_ | refine q_mov_fn rfl ?_ | refine q_mov_out rfl ?_ | refine q_mov_tup rfl ?_)
        | (refine i_loadA ?_; first | (apply q_loadA_ref; (focus exact rfl); (focus exact Nat.le_of_ble_eq_true rfl); (focus (first | (simp only [List.take_zero, List.take_succ_cons, List.take_nil, List.drop_zero, List.drop_succ_cons, List.drop_nil, List.nil_append, List.cons_append, List.append_nil, List.map_cons, List.map_nil, List.replicate_succ, List.replicate_zero, List.flatten_cons, List.flatten_nil, Nat.zero_add, Nat.reduceAdd, chunk]; rfl) | rfl))) | (apply q_loadA; (focus exact rfl); (focus (repeat (first | exact get_same | refine get_other (by omega) ?_))); (focus exact Nat.le_of_ble_eq_true rfl); (focus (first | (simp only [List.take_zero, List.take_succ_cons, List.take_nil, List.drop_zero, List.drop_succ_cons, List.drop_nil, List.nil_append, List.cons_append, List.append_nil, List.map_cons, List.map_nil, List.replicate_succ, List.replicate_zero, List.flatten_cons, List.flatten_nil, Nat.zero_add, Nat.reduceAdd, chunk]; rfl) | rfl))))
        | (refine i_not ?_; first | refine q_not rfl rfl ?_)
        | (refine i_box ?_; first | (refine q_box_agg rfl fun k hk => ?_) | (refine q_box_p rfl fun k hk => ?_) | (refine q_box_sl rfl fun k hk => ?_) | (refine q_box_fn rfl fun k hk => ?_))))
    | refine q_nil ?_
    | (refine i_awp ?_; first | refine q_seq ?_ | (refine q_reg fun n' hn' => ?_; simp only [List.length_cons, List.length_nil, Nat.zero_add, Nat.reduceAdd] at hn') | refine q_ret ?_)
    | refine q_normal ?_
    | refine q_seq_ret ?_
    )
  all_goals (refine q_fin_bool hwf rfl ?_ ?_ ?_; (focus (simp [*])); (focus (first | trivial | (simp only [keysP, and_true]; omega) | (repeat' (first | exact trivial | refine ⟨by omega, ?_⟩ | refine keys_vecB (fun k hk => by have := htk k hk; omega) ?_)))); omega)

theorem call98 : callable Try.prog 27 = true := by kernel_rfl
def rightL (l : List Lk) : Bool := decide (l.length ≤ 1048576) && l.all mayL
theorem rightL_mem {l : List Lk} (h : rightL l = true) : l.length ≤ 1048576 ∧ ∀ k ∈ l, mayL k = true := by simpa [rightL] using h
theorem mayL_b {k : Lk} (h : mayL k = true) : (-134217728 ≤ k.px ∧ k.px ≤ 134217728) ∧ (-134217728 ≤ k.py ∧ k.py ≤ 134217728) ∧ (-134217728 ≤ k.qx ∧ k.qx ≤ 134217728) ∧ (-134217728 ≤ k.qy ∧ k.qy ≤ 134217728) ∧ (-1048576 ≤ k.a ∧ k.a ≤ 1048576) ∧ (-1048576 ≤ k.b ∧ k.b ≤ 1048576) := by
  simp [mayL, small] at h; omega
theorem spec35 (S : St) (nl : Bool) (l : List Lk) : ASpec Try.prog 11 [.p (.sl nl (l.map Lk.pv))] S (vb (rightL l)) S := by
  refine q_fun hmix c35 rfl (Nat.le_of_ble_eq_true rfl) fun hwf hu => ?_
  repeat' (first
    | (refine i_ops ?_; first
      | (refine i_call 26 ?_; refine q_call_b (fun S => ASpec.fg (spec97 S Lk.pv (fun _ => rfl) nl l (by omega) 27 [] (fun k => !mayL k) call98 (fun k S => spec98 S k))) (fun hr => ?_) (fun hr => ?_))
      | (refine i_op ?_; first
        | (refine i_mov ?_; first | refine q_mov_p rfl ?_ | refine q_mov_agg rfl ?_ | refine q_mov_ptr rfl ?_ | refine q_mov_ref rfl ?_ | refine q_mov_sl rfl ?_ | refine q_mov_fn rfl ?_ | refine q_mov_out rfl ?_ | refine q_mov_tup rfl ?_)
        | (refine i_lenS ?_; first | refine q_lenS_map rfl ?_ | refine q_lenS rfl ?_)
        | (refine i_not ?_; first | refine q_not rfl rfl ?_)
        | (refine i_pick ?_; first | refine q_pick_t rfl ?_ | refine q_pick_f rfl ?_)
        | (refine i_arith _ ?_; first
          | (refine i_arith .leq ?_; first | refine q_leq rfl rfl (fun h => ?_) (fun h => ?_))))
      | (refine i_guard ?_; first | refine q_on rfl ?_ | refine q_off rfl rfl ?_ | refine q_off_tup rfl ?_))
    | refine q_nil ?_
    | (refine i_awp ?_; first | refine q_seq ?_ | (refine q_reg fun n' hn' => ?_; simp only [List.length_cons, List.length_nil, Nat.zero_add, Nat.reduceAdd] at hn') | refine q_ret ?_)
    | refine q_normal ?_
    | refine q_seq_ret ?_
    )
  · (refine q_fin_bool hwf rfl ?_ ?_ ?_; (focus (simp only [rightL, decide_eq_true (show l.length ≤ 1048576 by omega), Bool.true_and]; rw [List.any_eq_not_all_not] at hr; simp at hr ⊢; exact hr)); (focus (first | trivial | (simp only [keysP, and_true]; omega) | (repeat' (first | exact trivial | refine ⟨by omega, ?_⟩ | refine keys_vecB (fun k hk => by have := htk k hk; omega) ?_)))); omega)
  · (refine q_fin_bool hwf rfl ?_ ?_ ?_; (focus (simp only [rightL, decide_eq_true (show l.length ≤ 1048576 by omega), Bool.true_and]; rw [List.any_eq_not_all_not] at hr; simp at hr ⊢; exact hr)); (focus (first | trivial | (simp only [keysP, and_true]; omega) | (repeat' (first | exact trivial | refine ⟨by omega, ?_⟩ | refine keys_vecB (fun k hk => by have := htk k hk; omega) ?_)))); omega)
  · (refine q_fin_bool hwf rfl ?_ ?_ ?_; (focus (simp [rightL]; omega)); (focus (first | trivial | (simp only [keysP, and_true]; omega) | (repeat' (first | exact trivial | refine ⟨by omega, ?_⟩ | refine keys_vecB (fun k hk => by have := htk k hk; omega) ?_)))); omega)

theorem spec96 (S : St) (n m : Int) (h0 : 0 ≤ m) (h2 : m < 9223372036854775808) : ASpec Try.prog 25 [vi n, vi m] S (vb (small n m)) S := by
  refine q_fun hmix c96 rfl (Nat.le_of_ble_eq_true rfl) fun hwf hu => ?_
  repeat' (first
    | (refine i_ops ?_; first
      | (refine i_op ?_; first
        | (refine i_mov ?_; first | refine q_mov_p rfl ?_ | refine q_mov_agg rfl ?_ | refine q_mov_ptr rfl ?_ | refine q_mov_ref rfl ?_ | refine q_mov_sl rfl ?_ | refine q_mov_fn rfl ?_ | refine q_mov_out rfl ?_ | refine q_mov_tup rfl ?_)
        | (refine i_pick ?_; first | refine q_pick_t rfl ?_ | refine q_pick_f rfl ?_)
        | (refine i_arith _ ?_; first
          | (refine i_arith .sub ?_; first | (apply q_sub; (focus exact rfl); (focus exact rfl); (focus exact wrap64 (by omega))))
          | (refine i_arith .leq ?_; first | refine q_leq rfl rfl (fun h => ?_) (fun h => ?_))
          | (refine i_arith .geq ?_; first | refine q_geq rfl rfl (fun h => ?_) (fun h => ?_))))
      | (refine i_guard ?_; first | refine q_on rfl ?_ | refine q_off rfl rfl ?_ | refine q_off_tup rfl ?_))
    | refine q_nil ?_
    | (refine i_awp ?_; first | refine q_seq ?_ | (refine q_reg fun n' hn' => ?_; simp only [List.length_cons, List.length_nil, Nat.zero_add, Nat.reduceAdd] at hn') | refine q_ret ?_)
    | refine q_normal ?_
    | refine q_seq_ret ?_
    )
  all_goals (refine q_fin_bool hwf rfl ?_ ?_ ?_; (focus (simp [small]; omega)); (focus (first | trivial | (simp only [keysP, and_true]; omega) | (repeat' (first | exact trivial | refine ⟨by omega, ?_⟩ | refine keys_vecB (fun k hk => by have := htk k hk; omega) ?_)))); omega)

def lessP (p q : Pt) : Bool := decide (p.x < q.x) || decide (p.x = q.x) && decide (p.y < q.y)
theorem spec91 (S : St) (px py qx qy : Int) : ASpec Try.prog 24 [.agg [vi px, vi py], .agg [vi qx, vi qy]] S (vb (lessP ⟨px, py⟩ ⟨qx, qy⟩)) S := by
  refine q_fun hmix c91 rfl (Nat.le_of_ble_eq_true rfl) fun hwf hu => ?_
  repeat' (first
    | (refine i_ops ?_; first
      | (refine i_op ?_; first
        | (refine i_mov ?_; first | refine q_mov_p rfl ?_ | refine q_mov_agg rfl ?_ | refine q_mov_ptr rfl ?_ | refine q_mov_ref rfl ?_ | refine q_mov_sl rfl ?_ | refine q_mov_fn rfl ?_ | refine q_mov_out rfl ?_ | refine q_mov_tup rfl ?_)
        | (refine i_load1 ?_; first | (apply q_load1_ref; (focus exact rfl); (focus exact rfl)) | (apply q_load1; (focus exact rfl); (focus (repeat (first | exact get_same | refine get_other (by omega) ?_))); (focus exact rfl)))
        | (refine i_fadr ?_; first | refine q_fadr rfl rfl ?_ | refine q_fadr_ref rfl rfl ?_)
        | (refine i_pick ?_; first | refine q_pick_t rfl ?_ | refine q_pick_f rfl ?_)
        | (refine i_box ?_; first | (refine q_box_agg rfl fun k hk => ?_) | (refine q_box_p rfl fun k hk => ?_) | (refine q_box_sl rfl fun k hk => ?_) | (refine q_box_fn rfl fun k hk => ?_))
        | (refine i_arith _ ?_; first
          | (refine i_arith .lss ?_; first | refine q_lss rfl rfl (fun h => ?_) (fun h => ?_))
          | (refine i_arith .eql ?_; first | refine q_eql rfl rfl (fun h => ?_) (fun h => ?_))))
      | (refine i_guard ?_; first | refine q_on rfl ?_ | refine q_off rfl rfl ?_ | refine q_off_tup rfl ?_))
    | refine q_nil ?_
    | (refine i_awp ?_; first | refine q_seq ?_ | (refine q_reg fun n' hn' => ?_; simp only [List.length_cons, List.length_nil, Nat.zero_add, Nat.reduceAdd] at hn') | refine q_ret ?_)
    | refine q_normal ?_
    | refine q_seq_ret ?_
    )
  all_goals (refine q_fin_bool hwf rfl ?_ ?_ ?_; (focus (simp [lessP]; omega)); (focus (first | trivial | (simp only [keysP, and_true]; omega) | (repeat' (first | exact trivial | refine ⟨by omega, ?_⟩ | refine keys_vecB (fun k hk => by have := htk k hk; omega) ?_)))); omega)
theorem gcmp_less (p q : Pt) : decide (gcmp p q < 0) = lessP p q := by
  simp only [gcmp, orI, cmpI, lessP]
  by_cases h1 : p.x < q.x
  · simp [h1]
  · by_cases h2 : q.x < p.x
    · simp [h1, h2]; omega
    · have h3 : p.x = q.x := by omega
      by_cases h4 : p.y < q.y
      · simp [h3, h4]
      · by_cases h5 : q.y < p.y <;> simp [h3, h4, h5]

theorem spec34 (S : St) (nl : Bool) (l : List Lk) : ASpec Try.prog 10 [.p (.sl nl (l.map Lk.pv))] S (vb (rightL l)) S := by
  refine q_fun hmix c34 rfl (Nat.le_of_ble_eq_true rfl) fun hwf hu => ?_
  repeat' (first
    | (refine i_ops ?_; first
      | (refine i_op ?_; first
        | (refine i_mov ?_; first | refine q_mov_p rfl ?_ | refine q_mov_agg rfl ?_ | refine q_mov_ptr rfl ?_ | refine q_mov_ref rfl ?_ | refine q_mov_sl rfl ?_ | refine q_mov_fn rfl ?_ | refine q_mov_out rfl ?_ | refine q_mov_tup rfl ?_)
        | (refine i_load1 ?_; first | (apply q_load1_ref; (focus exact rfl); (focus exact rfl)) | (apply q_load1; (focus exact rfl); (focus (repeat (first | exact get_same | refine get_other (by omega) ?_))); (focus exact rfl)))
        | (refine i_loadA ?_; first | (apply q_loadA_ref; (focus exact rfl); (focus exact Nat.le_of_ble_eq_true rfl); (focus (first | (simp only [List.take_zero, List.take_succ_cons, List.take_nil, List.drop_zero, List.drop_succ_cons, List.drop_nil, List.nil_append, List.cons_append, List.append_nil, List.map_cons, List.map_nil, List.replicate_succ, List.replicate_zero, List.flatten_cons, List.flatten_nil, Nat.zero_add, Nat.reduceAdd, chunk]; rfl) | rfl))) | (apply q_loadA; (focus exact rfl); (focus (repeat (first | exact get_same | refine get_other (by omega) ?_))); (focus exact Nat.le_of_ble_eq_true rfl); (focus (first | (simp only [List.take_zero, List.take_succ_cons, List.take_nil, List.drop_zero, List.drop_succ_cons, List.drop_nil, List.nil_append, List.cons_append, List.append_nil, List.map_cons, List.map_nil, List.replicate_succ, List.replicate_zero, List.flatten_cons, List.flatten_nil, Nat.zero_add, Nat.reduceAdd, chunk]; rfl) | rfl))))
        | (refine i_store ?_; first | (apply q_store_agg; (focus exact rfl); (focus (repeat (first | exact get_same | refine get_other (by omega) ?_))); (focus exact rfl); (focus exact rfl); (focus exact Nat.le_of_ble_eq_true rfl); (focus (first | (simp only [List.take_zero, List.take_succ_cons, List.take_nil, List.drop_zero, List.drop_succ_cons, List.drop_nil, List.nil_append, List.cons_append, List.append_nil, List.map_cons, List.map_nil, List.replicate_succ, List.replicate_zero, List.flatten_cons, List.flatten_nil, Nat.zero_add, Nat.reduceAdd, chunk]; rfl) | rfl))) | (apply q_store_p; (focus exact rfl); (focus (repeat (first | exact get_same | refine get_other (by omega) ?_))); (focus exact rfl); (focus exact Nat.le_of_ble_eq_true rfl); (focus (first | (simp only [List.take_zero, List.take_succ_cons, List.take_nil, List.drop_zero, List.drop_succ_cons, List.drop_nil, List.nil_append, List.cons_append, List.append_nil, List.map_cons, List.map_nil, List.replicate_succ, List.replicate_zero, List.flatten_cons, List.flatten_nil, Nat.zero_add, Nat.reduceAdd, chunk]; rfl) | rfl))) | (apply q_store_sl; (focus exact rfl); (focus (repeat (first | exact get_same | refine get_other (by omega) ?_))); (focus exact rfl); (focus exact Nat.le_of_ble_eq_true rfl); (focus (first | (simp only [List.take_zero, List.take_succ_cons, List.take_nil, List.drop_zero, List.drop_succ_cons, List.drop_nil, List.nil_append, List.cons_append, List.append_nil, List.map_cons, List.map_nil, List.replicate_succ, List.replicate_zero, List.flatten_cons, List.flatten_nil, Nat.zero_add, Nat.reduceAdd, chunk]; rfl) | rfl))) | (apply q_store_fn; (focus exact rfl); (focus (repeat (first | exact get_same | refine get_other (by omega) ?_))); (focus exact rfl); (focus exact Nat.le_of_ble_eq_true rfl); (focus (first | (simp only [List.take_zero, List.take_succ_cons, List.take_nil, List.drop_zero, List.drop_succ_cons, List.drop_nil, List.nil_append, List.cons_append, List.append_nil, List.map_cons, List.map_nil, List.replicate_succ, List.replicate_zero, List.flatten_cons, List.flatten_nil, Nat.zero_add, Nat.reduceAdd, chunk]; rfl) | rfl))))
        | (refine i_fadr ?_; first | refine q_fadr rfl rfl ?_ | refine q_fadr_ref rfl rfl ?_)
        | (refine i_iadrS ?_; first | (apply q_iadrS_nat; (focus exact rfl); (focus exact rfl); (focus exact get_map (by omega)); (focus exact rfl)))
        | (refine i_lenS ?_; first | refine q_lenS_map rfl ?_ | refine q_lenS rfl ?_)
        | (refine i_not ?_; first | refine q_not rfl rfl ?_)
        | (refine i_pick ?_; first | refine q_pick_t rfl ?_ | refine q_pick_f rfl ?_)
        | (refine i_alloc ?_; first | (refine q_alloc fun k hk => ?_))
        | (refine i_arith _ ?_; first
          | (refine i_arith .add ?_; first | (apply q_add; (focus exact rfl); (focus exact rfl); (focus exact wrap64 (by omega))))
          | (refine i_arith .lss ?_; first | refine q_lss rfl rfl (fun h => ?_) (fun h => ?_))
          | (refine i_arith .gtr ?_; first | refine q_gtr rfl rfl (fun h => ?_) (fun h => ?_))))
      | (refine i_guard ?_; first | refine q_on rfl ?_ | refine q_off rfl rfl ?_ | refine q_off_tup rfl ?_))
    | refine q_nil ?_
    | (refine i_awp ?_; first | refine q_seq ?_ | (refine q_reg fun n' hn' => ?_; simp only [List.length_cons, List.length_nil, Nat.zero_add, Nat.reduceAdd] at hn') | refine q_cond_t rfl ?_ | refine q_cond_f rfl ?_ | refine q_block ?_ | refine q_exit ?_ | refine q_ret ?_ | refine q_skip ?_)
    | refine q_normal ?_
    | refine q_seq_exit ?_
    | refine q_loop_exit ?_
    | refine q_loop_ret ?_
    | refine q_seq_ret ?_
    | refine q_block_normal ?_
    | refine q_block_ret ?_
    | refine q_block_hit ?_
    | refine q_block_miss rfl ?_
    )
  · (refine q_fin_bool hwf rfl ?_ ?_ ?_; (focus (simp [rightL]; omega)); (focus (first | trivial | (simp only [keysP, and_true]; omega) | (repeat' (first | exact trivial | refine ⟨by omega, ?_⟩ | refine keys_vecB (fun k hk => by have := htk k hk; omega) ?_)))); omega)
  refine q_loop (γ := Nat) (fun i => [(0, .p (.sl nl (l.map Lk.pv))), (3, vi i)]) (fun _ => ST S n' []) (fun i => i ≤ l.length ∧ l.all mayL = (l.drop i).all mayL) (fun i => l.length - i) 0 (by simp) ?_ ?_
  · exact wk_mk hwf (by omega) (by omega) (by first | trivial | (simp only [keysP, and_true]; omega) | (repeat' (first | exact trivial | refine ⟨by omega, ?_⟩ | refine keys_vecB (fun k hk => by have := htk k hk; omega) ?_))) trivial (by simp only [fitsP]; repeat' (first | exact trivial | refine ⟨?_, ?_⟩ | exact .same trivial | exact wkV_out0 | exact wkV_out_eq hout (by omega) | exact wkV_ptr (by omega) | exact wkV_mapv (by omega) | exact .same (under_mono (by omega) hu.1) | exact .same (under_mono (by omega) hu.2.1) | exact .same (under_mono (by omega) hu.2.2.1) | exact wkV_int (by omega) | exact wkV_int (by simp) | exact .no _ _ _))
  · rintro i ⟨hi, hor⟩
    repeat' (first
      | (refine i_ops ?_; first
        | (refine i_call 25 ?_; refine q_call_b (fun S => spec96 S _ _ (by omega) (by omega)) (fun hr => ?_) (fun hr => ?_))
        | (refine i_call 24 ?_; refine q_call_b (fun S => spec91 S _ _ _ _) (fun hr => ?_) (fun hr => ?_))
        | (refine i_op ?_; first
          | (refine i_mov ?_; first | refine q_mov_p rfl ?_ | refine q_mov_agg rfl ?_ | refine q_mov_ptr rfl ?_ | refine q_mov_ref rfl ?_ | refine q_mov_sl rfl ?_ | refine q_mov_fn rfl ?_ | refine q_mov_out rfl ?_ | refine q_mov_tup rfl ?_)
          | (refine i_load1 ?_; first | (apply q_load1_ref; (focus exact rfl); (focus exact rfl)) | (apply q_load1; (focus exact rfl); (focus (repeat (first | exact get_same | refine get_other (by omega) ?_))); (focus exact rfl)))
          | (refine i_loadA ?_; first | (apply q_loadA_ref; (focus exact rfl); (focus exact Nat.le_of_ble_eq_true rfl); (focus (first | (simp only [List.take_zero, List.take_succ_cons, List.take_nil, List.drop_zero, List.drop_succ_cons, List.drop_nil, List.nil_append, List.cons_append, List.append_nil, List.map_cons, List.map_nil, List.replicate_succ, List.replicate_zero, List.flatten_cons, List.flatten_nil, Nat.zero_add, Nat.reduceAdd, chunk]; rfl) | rfl))) | (apply q_loadA; (focus exact rfl); (focus (repeat (first | exact get_same | refine get_other (by omega) ?_))); (focus exact Nat.le_of_ble_eq_true rfl); (focus (first | (simp only [List.take_zero, List.take_succ_cons, List.take_nil, List.drop_zero, List.drop_succ_cons, List.drop_nil, List.nil_append, List.cons_append, List.append_nil, List.map_cons, List.map_nil, List.replicate_succ, List.replicate_zero, List.flatten_cons, List.flatten_nil, Nat.zero_add, Nat.reduceAdd, chunk]; rfl) | rfl))))
          | (refine i_store ?_; first | (apply q_store_agg; (focus exact rfl); (focus (repeat (first | exact get_same | refine get_other (by omega) ?_))); (focus exact rfl); (focus exact rfl); (focus exact Nat.le_of_ble_eq_true rfl); (focus (first | (simp only [List.take_zero, List.take_succ_cons, List.take_nil, List.drop_zero, List.drop_succ_cons, List.drop_nil, List.nil_append, List.cons_append, List.append_nil, List.map_cons, List.map_nil, List.replicate_succ, List.replicate_zero, List.flatten_cons, List.flatten_nil, Nat.zero_add, Nat.reduceAdd, chunk]; rfl) | rfl))) | (apply q_store_p; (focus exact rfl); (focus (repeat (first | exact get_same | refine get_other (by omega) ?_))); (focus exact rfl); (focus exact Nat.le_of_ble_eq_true rfl); (focus (first | (simp only [List.take_zero, List.take_succ_cons, List.take_nil, List.drop_zero, List.drop_succ_cons, List.drop_nil, List.nil_append, List.cons_append, List.append_nil, List.map_cons, List.map_nil, List.replicate_succ, List.replicate_zero, List.flatten_cons, List.flatten_nil, Nat.zero_add, Nat.reduceAdd, chunk]; rfl) | rfl))) | (apply q_store_sl; (focus exact rfl); (focus (repeat (first | exact get_same | refine get_other (by omega) ?_))); (focus exact rfl); (focus exact Nat.le_of_ble_eq_true rfl); (focus (first | (simp only [List.take_zero, List.take_succ_cons, List.take_nil, List.drop_zero, List.drop_succ_cons, List.drop_nil, List.nil_append, List.cons_append, List.append_nil, List.map_cons, List.map_nil, List.replicate_succ, List.replicate_zero, List.flatten_cons, List.flatten_nil, Nat.zero_add, Nat.reduceAdd, chunk]; rfl) | rfl))) | (apply q_store_fn; (focus exact rfl); (focus (repeat (first | exact get_same | refine get_other (by omega) ?_))); (focus exact rfl); (focus exact Nat.le_of_ble_eq_true rfl); (focus (first | (simp only [List.take_zero, List.take_succ_cons, List.take_nil, List.drop_zero, List.drop_succ_cons, List.drop_nil, List.nil_append, List.cons_append, List.append_nil, List.map_cons, List.map_nil, List.replicate_succ, List.replicate_zero, List.flatten_cons, List.flatten_nil, Nat.zero_add, Nat.reduceAdd, chunk]; rfl) | rfl))))
          | (refine i_fadr ?_; first | refine q_fadr rfl rfl ?_ | refine q_fadr_ref rfl rfl ?_)
          | (refine i_iadrS ?_; first | (apply q_iadrS_nat; (focus exact rfl); (focus exact rfl); (focus exact get_map (by omega)); (focus exact rfl)))
          | (refine i_lenS ?_; first | refine q_lenS_map rfl ?_ | refine q_lenS rfl ?_)
          | (refine i_not ?_; first | refine q_not rfl rfl ?_)
          | (refine i_pick ?_; first | refine q_pick_t rfl ?_ | refine q_pick_f rfl ?_)
          | (refine i_alloc ?_; first | (refine q_alloc fun k hk => ?_))
          | (refine i_arith _ ?_; first
            | (refine i_arith .add ?_; first | (apply q_add; (focus exact rfl); (focus exact rfl); (focus exact wrap64 (by omega))))
            | (refine i_arith .lss ?_; first | refine q_lss rfl rfl (fun h => ?_) (fun h => ?_))
            | (refine i_arith .gtr ?_; first | refine q_gtr rfl rfl (fun h => ?_) (fun h => ?_))))
        | (refine i_guard ?_; first | refine q_on rfl ?_ | refine q_off rfl rfl ?_ | refine q_off_tup rfl ?_))
      | refine q_nil ?_
      | (refine i_awp ?_; first | refine q_seq ?_ | (refine q_reg fun n' hn' => ?_; simp only [List.length_cons, List.length_nil, Nat.zero_add, Nat.reduceAdd] at hn') | refine q_cond_t rfl ?_ | refine q_cond_f rfl ?_ | refine q_block ?_ | refine q_exit ?_ | refine q_ret ?_ | refine q_skip ?_)
      | refine q_normal ?_
      | refine q_seq_exit ?_
      | refine q_loop_exit ?_
      | refine q_loop_ret ?_
      | refine q_seq_ret ?_
      | refine q_block_normal ?_
      | refine q_block_ret ?_
      | refine q_block_hit ?_
      | refine q_block_miss rfl ?_
      )
    · exact q_loop_normal (i + 1) ⟨by omega, by rw [hor, drop_cons (by omega), List.all_cons, show mayL l[i] = true from (by simp only [mayL, gcmp_less]; simp [*]), Bool.true_and]⟩ (by omega) (wk_mk hwf (by omega) (by omega) (by first | trivial | (simp only [keysP, and_true]; omega) | (repeat' (first | exact trivial | refine ⟨by omega, ?_⟩ | refine keys_vecB (fun k hk => by have := htk k hk; omega) ?_))) trivial (by simp only [fitsP]; repeat' (first | exact trivial | refine ⟨?_, ?_⟩ | exact .same trivial | exact wkV_out0 | exact wkV_out_eq hout (by omega) | exact wkV_ptr (by omega) | exact wkV_mapv (by omega) | exact .same (under_mono (by omega) hu.1) | exact .same (under_mono (by omega) hu.2.1) | exact .same (under_mono (by omega) hu.2.2.1) | exact wkV_int (by omega) | exact wkV_int (by simp) | exact .no _ _ _)))
    rotate_right 1
    · (refine q_fin_bool hwf rfl ?_ ?_ ?_; (focus (simp only [rightL, decide_eq_true (show l.length ≤ 1048576 by omega), Bool.true_and, hor]; rw [List.drop_eq_nil_of_le (by omega)]; rfl)); (focus (first | trivial | (simp only [keysP, and_true]; omega) | (repeat' (first | exact trivial | refine ⟨by omega, ?_⟩ | refine keys_vecB (fun k hk => by have := htk k hk; omega) ?_)))); omega)
    all_goals (refine q_fin_bool hwf rfl ?_ ?_ ?_; (focus (simp only [rightL, decide_eq_true (show l.length ≤ 1048576 by omega), Bool.true_and, hor]; rw [drop_cons (by omega), List.all_cons, show mayL l[i] = false from (by simp only [mayL, gcmp_less]; simp [*]), Bool.false_and])); (focus (first | trivial | (simp only [keysP, and_true]; omega) | (repeat' (first | exact trivial | refine ⟨by omega, ?_⟩ | refine keys_vecB (fun k hk => by have := htk k hk; omega) ?_)))); omega)

theorem spec105 (S : St) (x y : Int) (hx : -4611686018427387904 ≤ x ∧ x < 4611686018427387904) (hy : -4611686018427387904 ≤ y ∧ y < 4611686018427387904) : ASpec Try.prog 34 [.agg [vi x, vi y]] S (.agg [vi (2 * x), vi (2 * y)]) S := by
  refine q_fun hmix c105 rfl (Nat.le_of_ble_eq_true rfl) fun hwf hu => ?_
  repeat' (first
    | (refine i_ops ?_; first
      | (refine i_op ?_; first
        | (refine i_load1 ?_; first | (apply q_load1_ref; (focus exact rfl); (focus exact rfl)) | (apply q_load1; (focus exact rfl); (focus (repeat (first | exact get_same | refine get_other (by omega) ?_))); (focus exact rfl)))
        | (refine i_store ?_; first | (apply q_store_agg; (focus exact rfl); (focus (repeat (first | exact get_same | refine get_other (by omega) ?_))); (focus exact rfl); (focus exact rfl); (focus exact Nat.le_of_ble_eq_true rfl); (focus (first | (simp only [List.take_zero, List.take_succ_cons, List.take_nil, List.drop_zero, List.drop_succ_cons, List.drop_nil, List.nil_append, List.cons_append, List.append_nil, List.map_cons, List.map_nil, List.replicate_succ, List.replicate_zero, List.flatten_cons, List.flatten_nil, Nat.zero_add, Nat.reduceAdd, chunk]; rfl) | rfl))) | (apply q_store_p; (focus exact rfl); (focus (repeat (first | exact get_same | refine get_other (by omega) ?_))); (focus exact rfl); (focus exact Nat.le_of_ble_eq_true rfl); (focus (first | (simp only [List.take_zero, List.take_succ_cons, List.take_nil, List.drop_zero, List.drop_succ_cons, List.drop_nil, List.nil_append, List.cons_append, List.append_nil, List.map_cons, List.map_nil, List.replicate_succ, List.replicate_zero, List.flatten_cons, List.flatten_nil, Nat.zero_add, Nat.reduceAdd, chunk]; rfl) | rfl))) | (apply q_store_sl; (focus exact rfl); (focus (repeat (first | exact get_same | refine get_other (by omega) ?_))); (focus exact rfl); (focus exact Nat.le_of_ble_eq_true rfl); (focus (first | (simp only [List.take_zero, List.take_succ_cons, List.take_nil, List.drop_zero, List.drop_succ_cons, List.drop_nil, List.nil_append, List.cons_append, List.append_nil, List.map_cons, List.map_nil, List.replicate_succ, List.replicate_zero, List.flatten_cons, List.flatten_nil, Nat.zero_add, Nat.reduceAdd, chunk]; rfl) | rfl))) | (apply q_store_fn; (focus exact rfl); (focus (repeat (first | exact get_same | refine get_other (by omega) ?_))); (focus exact rfl); (focus exact Nat.le_of_ble_eq_true rfl); (focus (first | (simp only [List.take_zero, List.take_succ_cons, List.take_nil, List.drop_zero, List.drop_succ_cons, List.drop_nil, List.nil_append, List.cons_append, List.append_nil, List.map_cons, List.map_nil, List.replicate_succ, List.replicate_zero, List.flatten_cons, List.flatten_nil, Nat.zero_add, Nat.reduceAdd, chunk]; rfl) | rfl))))
        | (refine i_fadr ?_; first | refine q_fadr rfl rfl ?_ | refine q_fadr_ref rfl rfl ?_)
        | (refine i_alloc ?_; first | (refine q_alloc fun k hk => ?_))
        | (refine i_box ?_; first | (refine q_box_agg rfl fun k hk => ?_) | (refine q_box_p rfl fun k hk => ?_) | (refine q_box_sl rfl fun k hk => ?_) | (refine q_box_fn rfl fun k hk => ?_))
        | (refine i_build ?_; first | (apply q_build; (focus (repeat' (first | exact fill_nil | (apply fill_p rfl (Nat.le_of_ble_eq_true rfl); (focus (first | (simp only [List.take_zero, List.take_succ_cons, List.take_nil, List.drop_zero, List.drop_succ_cons, List.drop_nil, List.nil_append, List.cons_append, List.append_nil, List.map_cons, List.map_nil, List.replicate_succ, List.replicate_zero, List.flatten_cons, List.flatten_nil, Nat.zero_add, Nat.reduceAdd, chunk]; rfl) | rfl))) | (apply fill_agg; (focus rfl); (focus rfl); (focus exact Nat.le_of_ble_eq_true rfl); (focus (first | (simp only [List.take_zero, List.take_succ_cons, List.take_nil, List.drop_zero, List.drop_succ_cons, List.drop_nil, List.nil_append, List.cons_append, List.append_nil, List.map_cons, List.map_nil, List.replicate_succ, List.replicate_zero, List.flatten_cons, List.flatten_nil, Nat.zero_add, Nat.reduceAdd, chunk]; rfl) | rfl))) | (apply fill_sl rfl (Nat.le_of_ble_eq_true rfl); (focus (first | (simp only [List.take_zero, List.take_succ_cons, List.take_nil, List.drop_zero, List.drop_succ_cons, List.drop_nil, List.nil_append, List.cons_append, List.append_nil, List.map_cons, List.map_nil, List.replicate_succ, List.replicate_zero, List.flatten_cons, List.flatten_nil, Nat.zero_add, Nat.reduceAdd, chunk]; rfl) | rfl))) | (apply fill_fn rfl (Nat.le_of_ble_eq_true rfl); (focus (first | (simp only [List.take_zero, List.take_succ_cons, List.take_nil, List.drop_zero, List.drop_succ_cons, List.drop_nil, List.nil_append, List.cons_append, List.append_nil, List.map_cons, List.map_nil, List.replicate_succ, List.replicate_zero, List.flatten_cons, List.flatten_nil, Nat.zero_add, Nat.reduceAdd, chunk]; rfl) | rfl))) | (apply fill_ptr rfl (Nat.le_of_ble_eq_true rfl); (focus (first | (simp only [List.take_zero, List.take_succ_cons, List.take_nil, List.drop_zero, List.drop_succ_cons, List.drop_nil, List.nil_append, List.cons_append, List.append_nil, List.map_cons, List.map_nil, List.replicate_succ, List.replicate_zero, List.flatten_cons, List.flatten_nil, Nat.zero_add, Nat.reduceAdd, chunk]; rfl) | rfl))))))))
        | (refine i_arith _ ?_; first
          | (refine i_arith .mul ?_; first | (apply q_mul; (focus exact rfl); (focus exact rfl); (focus exact wrap64 (by omega))) | (refine q_mul31 rfl rfl (by omega) (by omega) (fun hm1 hm2 => ?_))))))
    | refine q_nil ?_
    | (refine i_awp ?_; first | refine q_seq ?_ | (refine q_reg fun n' hn' => ?_; simp only [List.length_cons, List.length_nil, Nat.zero_add, Nat.reduceAdd] at hn') | refine q_ret ?_)
    | refine q_normal ?_
    | refine q_seq_ret ?_
    )
  all_goals (refine q_fin hwf (res_cons (res_cellA rfl (by repeat (first | exact get_same | refine get_other (by omega) ?_)) (Nat.le_of_ble_eq_true rfl) (by first | (simp only [List.take_zero, List.take_succ_cons, List.take_nil, List.drop_zero, List.drop_succ_cons, List.drop_nil, List.nil_append, List.cons_append, List.append_nil, List.map_cons, List.map_nil, List.replicate_succ, List.replicate_zero, List.flatten_cons, List.flatten_nil, Nat.zero_add, Nat.reduceAdd, chunk]; rfl) | rfl)) res_nil) ?_ ?_ ?_ ?_; (focus (rfl)); (focus (simp only [AV.under, AV.underL, Tok.under, and_self])); (focus (first | trivial | (simp only [keysP, and_true]; omega) | (repeat' (first | exact trivial | refine ⟨by omega, ?_⟩ | refine keys_vecB (fun k hk => by have := htk k hk; omega) ?_)))); omega)
end Go.Proofs.Ytinenepjloodcaa

