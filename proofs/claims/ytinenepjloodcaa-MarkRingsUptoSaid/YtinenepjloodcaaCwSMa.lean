/- CONTRACTS: how many points rings have, and whether rings are right. -/
import Derived.Test.YtinenepjloodcaaCwS3
set_option linter.unusedVariables false
set_option linter.unusedSimpArgs false
set_option maxHeartbeats 4000000
set_option maxRecDepth 20000
namespace Go.Proofs.Ytinenepjloodcaa
open Go.Cw
attribute [local irreducible] aops awp seqQ blockQ seqC loopQ endQ getB outV vecB

structure Rg where
  nl : Bool
  pts : List Pt
def Pt.pv (p : Pt) : List PV := [.int .i64 p.x, .int .i64 p.y]
def Rg.pv (r : Rg) : List PV := [.sl r.nl (r.pts.map Pt.pv)]
def cntR : List Rg → Int → Int
  | [], a => a
  | r :: rs, a => if 256 < a then a else if 256 < r.pts.length then 257 else cntR rs (a + r.pts.length)
theorem cntR_stop (rs : List Rg) {a : Int} (h : 256 < a) : cntR rs a = a := by cases rs <;> simp [cntR, h]

structure CG where
  i : Nat
  n : Nat
  s : Int

theorem spec108 (S : St) (nl : Bool) (rs : List Rg) (hl : rs.length ≤ 4611686018427387904) : ASpec Try.prog 37 [.p (.sl nl (rs.map Rg.pv))] S (vi (cntR rs 0)) S := by
  refine q_fun hmix c108 rfl (Nat.le_of_ble_eq_true rfl) fun hwf hu => ?_
  repeat' (first
    | (refine i_ops ?_; first
      | (refine i_op ?_; first
        | (refine i_mov ?_; first | refine q_mov_p rfl ?_ | refine q_mov_agg rfl ?_ | refine q_mov_ptr rfl ?_ | refine q_mov_ref rfl ?_ | refine q_mov_sl rfl ?_ | refine q_mov_fn rfl ?_ | refine q_mov_out rfl ?_ | refine q_mov_tup rfl ?_)
        | (refine i_load1 ?_; first | (apply q_load1_ref; (focus exact rfl); (focus exact rfl)) | (apply q_load1; (focus exact rfl); (focus (repeat (first | exact get_same | refine get_other (by omega) ?_))); (focus exact rfl)))
        | (refine i_iadrS ?_; first | (apply q_iadrS_nat; (focus exact rfl); (focus exact rfl); (focus exact get_map (by omega)); (focus exact rfl)))
        | (refine i_lenS ?_; first | refine q_lenS_map rfl ?_ | refine q_lenS rfl ?_)
        | (refine i_pick ?_; first | refine q_pick_t rfl ?_ | refine q_pick_f rfl ?_)
        | (refine i_arith _ ?_; first
          | (refine i_arith .add ?_; first | (apply q_add; (focus exact rfl); (focus exact rfl); (focus exact wrap64 (by omega))))
          | (refine i_arith .lss ?_; first | refine q_lss rfl rfl (fun h => ?_) (fun h => ?_))
          | (refine i_arith .leq ?_; first | refine q_leq rfl rfl (fun h => ?_) (fun h => ?_))
          | (refine i_arith .gtr ?_; first | refine q_gtr rfl rfl (fun h => ?_) (fun h => ?_))))
      | (refine i_guard ?_; first | refine q_on rfl ?_ | refine q_off rfl rfl ?_ | refine q_off_tup rfl ?_))
    | refine q_nil ?_
    | (refine i_awp ?_; first | refine q_seq ?_ | (refine q_reg fun n' hn' => ?_; simp only [List.length_cons, List.length_nil, Nat.zero_add, Nat.reduceAdd] at hn') | refine q_cond_t rfl ?_ | refine q_cond_f rfl ?_ | refine q_block ?_ | refine q_exit ?_ | refine q_ret ?_ | refine q_skip ?_)
    | refine q_normal ?_
    | refine q_seq_exit ?_
    | refine q_loop_exit ?_
    | refine q_loop_ret ?_
    | refine q_seq_ret ?_
    | refine q_block_normal ?_
    | refine q_block_ret ?_
    | refine q_block_hit ?_
    | refine q_block_miss rfl ?_
    )
  refine q_loop (γ := CG) (fun g => [(0, .p (.sl nl (rs.map Rg.pv))), (3, vi g.s), (4, vi g.i)]) (fun g => ST S g.n []) (fun g => g.i ≤ rs.length ∧ n' ≤ g.n ∧ 0 ≤ g.s ∧ g.s ≤ 512 ∧ cntR (rs.drop g.i) g.s = cntR rs 0) (fun g => rs.length - g.i) ⟨0, n', 0⟩ (by simp) ?_ ?_
  · exact wk_mk hwf (by simp only; omega) (by simp) (by first | trivial | (simp only [keysP, and_true]; omega) | (repeat' (first | exact trivial | refine ⟨by omega, ?_⟩ | refine keys_vecB (fun k hk => by have := htk k hk; omega) ?_))) trivial (by simp only [fitsP]; repeat' (first | exact trivial | refine ⟨?_, ?_⟩ | exact .same trivial | exact wkV_out0 | exact wkV_out_eq hout (by omega) | exact wkV_ptr (by omega) | exact wkV_mapv (by omega) | exact .same (under_mono (by omega) hu.1) | exact .same (under_mono (by omega) hu.2.1) | exact .same (under_mono (by omega) hu.2.2.1) | exact wkV_int (by omega) | exact wkV_int (by simp) | exact .no _ _ _))
  · rintro ⟨i, n0, s⟩ ⟨hi, hn0, hs0, hs1, hs⟩
    dsimp only at *
    repeat' (first
      | (refine i_ops ?_; first
        | (refine i_op ?_; first
          | (refine i_mov ?_; first | refine q_mov_p rfl ?_ | refine q_mov_agg rfl ?_ | refine q_mov_ptr rfl ?_ | refine q_mov_ref rfl ?_ | refine q_mov_sl rfl ?_ | refine q_mov_fn rfl ?_ | refine q_mov_out rfl ?_ | refine q_mov_tup rfl ?_)
          | (refine i_load1 ?_; first | (apply q_load1_ref; (focus exact rfl); (focus exact rfl)) | (apply q_load1; (focus exact rfl); (focus (repeat (first | exact get_same | refine get_other (by omega) ?_))); (focus exact rfl)))
          | (refine i_iadrS ?_; first | (apply q_iadrS_nat; (focus exact rfl); (focus exact rfl); (focus exact get_map (by omega)); (focus exact rfl)))
          | (refine i_lenS ?_; first | refine q_lenS_map rfl ?_ | refine q_lenS rfl ?_)
          | (refine i_pick ?_; first | refine q_pick_t rfl ?_ | refine q_pick_f rfl ?_)
          | (refine i_arith _ ?_; first
            | (refine i_arith .add ?_; first | (apply q_add; (focus exact rfl); (focus exact rfl); (focus exact wrap64 (by omega))))
            | (refine i_arith .lss ?_; first | refine q_lss rfl rfl (fun h => ?_) (fun h => ?_))
            | (refine i_arith .leq ?_; first | refine q_leq rfl rfl (fun h => ?_) (fun h => ?_))
            | (refine i_arith .gtr ?_; first | refine q_gtr rfl rfl (fun h => ?_) (fun h => ?_))))
        | (refine i_guard ?_; first | refine q_on rfl ?_ | refine q_off rfl rfl ?_ | refine q_off_tup rfl ?_))
      | refine q_nil ?_
      | (refine i_awp ?_; first | refine q_seq ?_ | (refine q_reg fun n' hn' => ?_; simp only [List.length_cons, List.length_nil, Nat.zero_add, Nat.reduceAdd] at hn') | refine q_cond_t rfl ?_ | refine q_cond_f rfl ?_ | refine q_block ?_ | refine q_exit ?_ | refine q_ret ?_ | refine q_skip ?_)
      | refine q_normal ?_
      | refine q_seq_exit ?_
      | refine q_loop_exit ?_
      | refine q_loop_ret ?_
      | refine q_seq_ret ?_
      | refine q_block_normal ?_
      | refine q_block_ret ?_
      | refine q_block_hit ?_
      | refine q_block_miss rfl ?_
      )
    · have hd : rs.drop i = rs[i] :: rs.drop (i + 1) := drop_cons (by omega)
      rw [hd, cntR, if_neg (by omega), if_pos (by omega)] at hs
      (refine q_fin_int hwf rfl ?_ ?_ ?_; (focus (exact hs)); (focus (first | trivial | (simp only [keysP, and_true]; omega) | (repeat' (first | exact trivial | refine ⟨by omega, ?_⟩ | refine keys_vecB (fun k hk => by have := htk k hk; omega) ?_)))); omega)
    · have hd : rs.drop i = rs[i] :: rs.drop (i + 1) := drop_cons (by omega)
      rw [hd, cntR, if_neg (by omega), if_neg (by omega)] at hs
      refine q_loop_normal ⟨i + 1, n', s + rs[i].pts.length⟩ ⟨by simp only; omega, by simp only; omega, by simp only; omega, by simp only; omega, hs⟩ (by simp only; omega) ?_
      dsimp only
      exact wk_mk hwf (by omega) (by omega) (by first | trivial | (simp only [keysP, and_true]; omega) | (repeat' (first | exact trivial | refine ⟨by omega, ?_⟩ | refine keys_vecB (fun k hk => by have := htk k hk; omega) ?_))) trivial (by simp only [fitsP]; repeat' (first | exact trivial | refine ⟨?_, ?_⟩ | exact .same trivial | exact wkV_out0 | exact wkV_out_eq hout (by omega) | exact wkV_ptr (by omega) | exact wkV_mapv (by omega) | exact .same (under_mono (by omega) hu.1) | exact .same (under_mono (by omega) hu.2.1) | exact .same (under_mono (by omega) hu.2.2.1) | exact wkV_int (by omega) | exact wkV_int (by simp) | exact .no _ _ _))
    · rw [cntR_stop _ (by omega)] at hs
      (refine q_fin_int hwf rfl ?_ ?_ ?_; (focus (exact hs)); (focus (first | trivial | (simp only [keysP, and_true]; omega) | (repeat' (first | exact trivial | refine ⟨by omega, ?_⟩ | refine keys_vecB (fun k hk => by have := htk k hk; omega) ?_)))); omega)
    · rw [List.drop_eq_nil_of_le (by omega)] at hs
      (refine q_fin_int hwf rfl ?_ ?_ ?_; (focus (exact hs)); (focus (first | trivial | (simp only [keysP, and_true]; omega) | (repeat' (first | exact trivial | refine ⟨by omega, ?_⟩ | refine keys_vecB (fun k hk => by have := htk k hk; omega) ?_)))); omega)

def badP (p : Pt) : Bool := decide (67108864 < p.x) || decide (p.x < -67108864) || decide (67108864 < p.y) || decide (p.y < -67108864)
def chkR : List Rg → Int
  | [] => 0
  | r :: rs => if r.pts.length < 3 then 114 else if r.pts.any badP then 115 else chkR rs
structure DG where
  i : Nat
  n : Nat
theorem spec109 (S : St) (nl : Bool) (rs : List Rg) (hl : rs.length ≤ 4611686018427387904) (hp : ∀ r ∈ rs, r.pts.length ≤ 4611686018427387904) : ASpec Try.prog 38 [.p (.sl nl (rs.map Rg.pv))] S (vi (chkR rs)) S := by
  refine q_fun hmix c109 rfl (Nat.le_of_ble_eq_true rfl) fun hwf hu => ?_
  repeat' (first
    | (refine i_ops ?_; first
      | (refine i_op ?_; first
        | (refine i_mov ?_; first | refine q_mov_p rfl ?_ | refine q_mov_agg rfl ?_ | refine q_mov_ptr rfl ?_ | refine q_mov_ref rfl ?_ | refine q_mov_sl rfl ?_ | refine q_mov_fn rfl ?_ | refine q_mov_out rfl ?_ | refine q_mov_tup rfl ?_)
        | (refine i_load1 ?_; first | (apply q_load1_ref; (focus exact rfl); (focus exact rfl)) | (apply q_load1; (focus exact rfl); (focus (repeat (first | exact get_same | refine get_other (by omega) ?_))); (focus exact rfl)))
        | (refine i_loadA ?_; first | (apply q_loadA_ref; (focus exact rfl); (focus exact Nat.le_of_ble_eq_true rfl); (focus (first | (simp only [Rg.pv, Pt.pv, List.take_zero, List.take_succ_cons, List.take_nil, List.drop_zero, List.drop_succ_cons, List.drop_nil, List.nil_append, List.cons_append, List.append_nil, List.map_cons, List.map_nil, List.replicate_succ, List.replicate_zero, List.flatten_cons, List.flatten_nil, Nat.zero_add, Nat.reduceAdd, chunk]; rfl) | rfl))) | (apply q_loadA; (focus exact rfl); (focus (repeat (first | exact get_same | refine get_other (by omega) ?_))); (focus exact Nat.le_of_ble_eq_true rfl); (focus (first | (simp only [Rg.pv, Pt.pv, List.take_zero, List.take_succ_cons, List.take_nil, List.drop_zero, List.drop_succ_cons, List.drop_nil, List.nil_append, List.cons_append, List.append_nil, List.map_cons, List.map_nil, List.replicate_succ, List.replicate_zero, List.flatten_cons, List.flatten_nil, Nat.zero_add, Nat.reduceAdd, chunk]; rfl) | rfl))))
        | (refine i_store ?_; first | (apply q_store_agg; (focus exact rfl); (focus (repeat (first | exact get_same | refine get_other (by omega) ?_))); (focus exact rfl); (focus exact rfl); (focus exact Nat.le_of_ble_eq_true rfl); (focus (first | (simp only [Rg.pv, Pt.pv, List.take_zero, List.take_succ_cons, List.take_nil, List.drop_zero, List.drop_succ_cons, List.drop_nil, List.nil_append, List.cons_append, List.append_nil, List.map_cons, List.map_nil, List.replicate_succ, List.replicate_zero, List.flatten_cons, List.flatten_nil, Nat.zero_add, Nat.reduceAdd, chunk]; rfl) | rfl))) | (apply q_store_p; (focus exact rfl); (focus (repeat (first | exact get_same | refine get_other (by omega) ?_))); (focus exact rfl); (focus exact Nat.le_of_ble_eq_true rfl); (focus (first | (simp only [Rg.pv, Pt.pv, List.take_zero, List.take_succ_cons, List.take_nil, List.drop_zero, List.drop_succ_cons, List.drop_nil, List.nil_append, List.cons_append, List.append_nil, List.map_cons, List.map_nil, List.replicate_succ, List.replicate_zero, List.flatten_cons, List.flatten_nil, Nat.zero_add, Nat.reduceAdd, chunk]; rfl) | rfl))) | (apply q_store_sl; (focus exact rfl); (focus (repeat (first | exact get_same | refine get_other (by omega) ?_))); (focus exact rfl); (focus exact Nat.le_of_ble_eq_true rfl); (focus (first | (simp only [Rg.pv, Pt.pv, List.take_zero, List.take_succ_cons, List.take_nil, List.drop_zero, List.drop_succ_cons, List.drop_nil, List.nil_append, List.cons_append, List.append_nil, List.map_cons, List.map_nil, List.replicate_succ, List.replicate_zero, List.flatten_cons, List.flatten_nil, Nat.zero_add, Nat.reduceAdd, chunk]; rfl) | rfl))) | (apply q_store_fn; (focus exact rfl); (focus (repeat (first | exact get_same | refine get_other (by omega) ?_))); (focus exact rfl); (focus exact Nat.le_of_ble_eq_true rfl); (focus (first | (simp only [Rg.pv, Pt.pv, List.take_zero, List.take_succ_cons, List.take_nil, List.drop_zero, List.drop_succ_cons, List.drop_nil, List.nil_append, List.cons_append, List.append_nil, List.map_cons, List.map_nil, List.replicate_succ, List.replicate_zero, List.flatten_cons, List.flatten_nil, Nat.zero_add, Nat.reduceAdd, chunk]; rfl) | rfl))))
        | (refine i_fadr ?_; first | refine q_fadr rfl rfl ?_ | refine q_fadr_ref rfl rfl ?_)
        | (refine i_iadrS ?_; first | (apply q_iadrS_nat; (focus exact rfl); (focus exact rfl); (focus exact get_map (by omega)); (focus exact rfl)))
        | (refine i_lenS ?_; first | refine q_lenS_map rfl ?_ | refine q_lenS rfl ?_)
        | (refine i_pick ?_; first | refine q_pick_t rfl ?_ | refine q_pick_f rfl ?_)
        | (refine i_alloc ?_; first | (refine q_alloc fun k hk => ?_))
        | (refine i_arith _ ?_; first
          | (refine i_arith .add ?_; first | (apply q_add; (focus exact rfl); (focus exact rfl); (focus exact wrap64 (by omega))))
          | (refine i_arith .lss ?_; first | refine q_lss rfl rfl (fun h => ?_) (fun h => ?_))
          | (refine i_arith .gtr ?_; first | refine q_gtr rfl rfl (fun h => ?_) (fun h => ?_))))
      | (refine i_guard ?_; first | refine q_on rfl ?_ | refine q_off rfl rfl ?_ | refine q_off_tup rfl ?_))
    | refine q_nil ?_
    | (refine i_awp ?_; first | refine q_seq ?_ | (refine q_reg fun n' hn' => ?_; simp only [List.length_cons, List.length_nil, Nat.zero_add, Nat.reduceAdd] at hn') | refine q_cond_t rfl ?_ | refine q_cond_f rfl ?_ | refine q_block ?_ | refine q_exit ?_ | refine q_ret ?_ | refine q_skip ?_)
    | refine q_normal ?_
    | refine q_seq_exit ?_
    | refine q_loop_exit ?_
    | refine q_loop_ret ?_
    | refine q_seq_ret ?_
    | refine q_block_normal ?_
    | refine q_block_ret ?_
    | refine q_block_hit ?_
    | refine q_block_miss rfl ?_
    )
  refine q_loop (γ := DG) (fun g => [(0, .p (.sl nl (rs.map Rg.pv))), (3, vi g.i)]) (fun g => ST S g.n []) (fun g => g.i ≤ rs.length ∧ n' ≤ g.n ∧ chkR (rs.drop g.i) = chkR rs) (fun g => rs.length - g.i) ⟨0, n'⟩ (by simp) ?_ ?_
  · exact wk_mk hwf (by simp only; omega) (by simp) (by first | trivial | (simp only [keysP, and_true]; omega) | (repeat' (first | exact trivial | refine ⟨by omega, ?_⟩ | refine keys_vecB (fun k hk => by have := htk k hk; omega) ?_))) trivial (by simp only [fitsP]; repeat' (first | exact trivial | refine ⟨?_, ?_⟩ | exact .same trivial | exact wkV_out0 | exact wkV_out_eq hout (by omega) | exact wkV_ptr (by omega) | exact wkV_mapv (by omega) | exact .same (under_mono (by omega) hu.1) | exact .same (under_mono (by omega) hu.2.1) | exact .same (under_mono (by omega) hu.2.2.1) | exact wkV_int (by omega) | exact wkV_int (by simp) | exact .no _ _ _))
  · rintro ⟨i, n0⟩ ⟨hi, hn0, hs⟩
    dsimp only at *
    repeat' (first
      | (refine i_ops ?_; first
        | (refine i_op ?_; first
          | (refine i_mov ?_; first | refine q_mov_p rfl ?_ | refine q_mov_agg rfl ?_ | refine q_mov_ptr rfl ?_ | refine q_mov_ref rfl ?_ | refine q_mov_sl rfl ?_ | refine q_mov_fn rfl ?_ | refine q_mov_out rfl ?_ | refine q_mov_tup rfl ?_)
          | (refine i_load1 ?_; first | (apply q_load1_ref; (focus exact rfl); (focus exact rfl)) | (apply q_load1; (focus exact rfl); (focus (repeat (first | exact get_same | refine get_other (by omega) ?_))); (focus exact rfl)))
          | (refine i_loadA ?_; first | (apply q_loadA_ref; (focus exact rfl); (focus exact Nat.le_of_ble_eq_true rfl); (focus (first | (simp only [Rg.pv, Pt.pv, List.take_zero, List.take_succ_cons, List.take_nil, List.drop_zero, List.drop_succ_cons, List.drop_nil, List.nil_append, List.cons_append, List.append_nil, List.map_cons, List.map_nil, List.replicate_succ, List.replicate_zero, List.flatten_cons, List.flatten_nil, Nat.zero_add, Nat.reduceAdd, chunk]; rfl) | rfl))) | (apply q_loadA; (focus exact rfl); (focus (repeat (first | exact get_same | refine get_other (by omega) ?_))); (focus exact Nat.le_of_ble_eq_true rfl); (focus (first | (simp only [Rg.pv, Pt.pv, List.take_zero, List.take_succ_cons, List.take_nil, List.drop_zero, List.drop_succ_cons, List.drop_nil, List.nil_append, List.cons_append, List.append_nil, List.map_cons, List.map_nil, List.replicate_succ, List.replicate_zero, List.flatten_cons, List.flatten_nil, Nat.zero_add, Nat.reduceAdd, chunk]; rfl) | rfl))))
          | (refine i_store ?_; first | (apply q_store_agg; (focus exact rfl); (focus (repeat (first | exact get_same | refine get_other (by omega) ?_))); (focus exact rfl); (focus exact rfl); (focus exact Nat.le_of_ble_eq_true rfl); (focus (first | (simp only [Rg.pv, Pt.pv, List.take_zero, List.take_succ_cons, List.take_nil, List.drop_zero, List.drop_succ_cons, List.drop_nil, List.nil_append, List.cons_append, List.append_nil, List.map_cons, List.map_nil, List.replicate_succ, List.replicate_zero, List.flatten_cons, List.flatten_nil, Nat.zero_add, Nat.reduceAdd, chunk]; rfl) | rfl))) | (apply q_store_p; (focus exact rfl); (focus (repeat (first | exact get_same | refine get_other (by omega) ?_))); (focus exact rfl); (focus exact Nat.le_of_ble_eq_true rfl); (focus (first | (simp only [Rg.pv, Pt.pv, List.take_zero, List.take_succ_cons, List.take_nil, List.drop_zero, List.drop_succ_cons, List.drop_nil, List.nil_append, List.cons_append, List.append_nil, List.map_cons, List.map_nil, List.replicate_succ, List.replicate_zero, List.flatten_cons, List.flatten_nil, Nat.zero_add, Nat.reduceAdd, chunk]; rfl) | rfl))) | (apply q_store_sl; (focus exact rfl); (focus (repeat (first | exact get_same | refine get_other (by omega) ?_))); (focus exact rfl); (focus exact Nat.le_of_ble_eq_true rfl); (focus (first | (simp only [Rg.pv, Pt.pv, List.take_zero, List.take_succ_cons, List.take_nil, List.drop_zero, List.drop_succ_cons, List.drop_nil, List.nil_append, List.cons_append, List.append_nil, List.map_cons, List.map_nil, List.replicate_succ, List.replicate_zero, List.flatten_cons, List.flatten_nil, Nat.zero_add, Nat.reduceAdd, chunk]; rfl) | rfl))) | (apply q_store_fn; (focus exact rfl); (focus (repeat (first | exact get_same | refine get_other (by omega) ?_))); (focus exact rfl); (focus exact Nat.le_of_ble_eq_true rfl); (focus (first | (simp only [Rg.pv, Pt.pv, List.take_zero, List.take_succ_cons, List.take_nil, List.drop_zero, List.drop_succ_cons, List.drop_nil, List.nil_append, List.cons_append, List.append_nil, List.map_cons, List.map_nil, List.replicate_succ, List.replicate_zero, List.flatten_cons, List.flatten_nil, Nat.zero_add, Nat.reduceAdd, chunk]; rfl) | rfl))))
          | (refine i_fadr ?_; first | refine q_fadr rfl rfl ?_ | refine q_fadr_ref rfl rfl ?_)
          | (refine i_iadrS ?_; first | (apply q_iadrS_nat; (focus exact rfl); (focus exact rfl); (focus exact get_map (by omega)); (focus exact rfl)))
          | (refine i_lenS ?_; first | refine q_lenS_map rfl ?_ | refine q_lenS rfl ?_)
          | (refine i_pick ?_; first | refine q_pick_t rfl ?_ | refine q_pick_f rfl ?_)
          | (refine i_alloc ?_; first | (refine q_alloc fun k hk => ?_))
          | (refine i_arith _ ?_; first
            | (refine i_arith .add ?_; first | (apply q_add; (focus exact rfl); (focus exact rfl); (focus exact wrap64 (by omega))))
            | (refine i_arith .lss ?_; first | refine q_lss rfl rfl (fun h => ?_) (fun h => ?_))
            | (refine i_arith .gtr ?_; first | refine q_gtr rfl rfl (fun h => ?_) (fun h => ?_))))
        | (refine i_guard ?_; first | refine q_on rfl ?_ | refine q_off rfl rfl ?_ | refine q_off_tup rfl ?_))
      | refine q_nil ?_
      | (refine i_awp ?_; first | refine q_seq ?_ | (refine q_reg fun n' hn' => ?_; simp only [List.length_cons, List.length_nil, Nat.zero_add, Nat.reduceAdd] at hn') | refine q_cond_t rfl ?_ | refine q_cond_f rfl ?_ | refine q_block ?_ | refine q_exit ?_ | refine q_ret ?_ | refine q_skip ?_)
      | refine q_normal ?_
      | refine q_seq_exit ?_
      | refine q_loop_exit ?_
      | refine q_loop_ret ?_
      | refine q_seq_ret ?_
      | refine q_block_normal ?_
      | refine q_block_ret ?_
      | refine q_block_hit ?_
      | refine q_block_miss rfl ?_
      )
    · have hd : rs.drop i = rs[i] :: rs.drop (i + 1) := drop_cons (by omega)
      rw [hd, chkR, if_pos (by omega)] at hs
      (refine q_fin_int hwf rfl ?_ ?_ ?_; (focus (exact hs)); (focus (first | trivial | (simp only [keysP, and_true]; omega) | (repeat' (first | exact trivial | refine ⟨by omega, ?_⟩ | refine keys_vecB (fun k hk => by have := htk k hk; omega) ?_)))); omega)
    · have hd : rs.drop i = rs[i] :: rs.drop (i + 1) := drop_cons (by omega)
      have hpl : rs[i].pts.length ≤ 4611686018427387904 := hp _ (List.getElem_mem _)
      rw [hd, chkR, if_neg (by omega)] at hs
      have hnn : n0 ≤ n' := by omega
      refine q_loop (γ := DG) (fun g => [(0, .p (.sl nl (rs.map Rg.pv))), (3, vi i), (4, vi g.i)]) (fun g => ST S g.n []) (fun g => g.i ≤ rs[i].pts.length ∧ n' ≤ g.n ∧ (rs[i].pts.drop g.i).any badP = rs[i].pts.any badP) (fun g => rs[i].pts.length - g.i) ⟨0, n'⟩ (by simp) ?_ ?_
      · exact wk_mk hwf (by simp only; omega) (by simp) (by first | trivial | (simp only [keysP, and_true]; omega) | (repeat' (first | exact trivial | refine ⟨by omega, ?_⟩ | refine keys_vecB (fun k hk => by have := htk k hk; omega) ?_))) trivial (by simp only [fitsP]; repeat' (first | exact trivial | refine ⟨?_, ?_⟩ | exact .same trivial | exact wkV_out0 | exact wkV_out_eq hout (by omega) | exact wkV_ptr (by omega) | exact wkV_mapv (by omega) | exact .same (under_mono (by omega) hu.1) | exact .same (under_mono (by omega) hu.2.1) | exact .same (under_mono (by omega) hu.2.2.1) | exact wkV_int (by omega) | exact wkV_int (by simp) | exact .no _ _ _))
      · rintro ⟨m, n1⟩ ⟨hm, hn1, hb⟩
        dsimp only at *
        repeat' (first
          | (refine i_ops ?_; first
            | (refine i_op ?_; first
              | (refine i_mov ?_; first | refine q_mov_p rfl ?_ | refine q_mov_agg rfl ?_ | refine q_mov_ptr rfl ?_ | refine q_mov_ref rfl ?_ | refine q_mov_sl rfl ?_ | refine q_mov_fn rfl ?_ | refine q_mov_out rfl ?_ | refine q_mov_tup rfl ?_)
              | (refine i_load1 ?_; first | (apply q_load1_ref; (focus exact rfl); (focus exact rfl)) | (apply q_load1; (focus exact rfl); (focus (repeat (first | exact get_same | refine get_other (by omega) ?_))); (focus exact rfl)))
              | (refine i_loadA ?_; first | (apply q_loadA_ref; (focus exact rfl); (focus exact Nat.le_of_ble_eq_true rfl); (focus (first | (simp only [Rg.pv, Pt.pv, List.take_zero, List.take_succ_cons, List.take_nil, List.drop_zero, List.drop_succ_cons, List.drop_nil, List.nil_append, List.cons_append, List.append_nil, List.map_cons, List.map_nil, List.replicate_succ, List.replicate_zero, List.flatten_cons, List.flatten_nil, Nat.zero_add, Nat.reduceAdd, chunk]; rfl) | rfl))) | (apply q_loadA; (focus exact rfl); (focus (repeat (first | exact get_same | refine get_other (by omega) ?_))); (focus exact Nat.le_of_ble_eq_true rfl); (focus (first | (simp only [Rg.pv, Pt.pv, List.take_zero, List.take_succ_cons, List.take_nil, List.drop_zero, List.drop_succ_cons, List.drop_nil, List.nil_append, List.cons_append, List.append_nil, List.map_cons, List.map_nil, List.replicate_succ, List.replicate_zero, List.flatten_cons, List.flatten_nil, Nat.zero_add, Nat.reduceAdd, chunk]; rfl) | rfl))))
              | (refine i_store ?_; first | (apply q_store_agg; (focus exact rfl); (focus (repeat (first | exact get_same | refine get_other (by omega) ?_))); (focus exact rfl); (focus exact rfl); (focus exact Nat.le_of_ble_eq_true rfl); (focus (first | (simp only [Rg.pv, Pt.pv, List.take_zero, List.take_succ_cons, List.take_nil, List.drop_zero, List.drop_succ_cons, List.drop_nil, List.nil_append, List.cons_append, List.append_nil, List.map_cons, List.map_nil, List.replicate_succ, List.replicate_zero, List.flatten_cons, List.flatten_nil, Nat.zero_add, Nat.reduceAdd, chunk]; rfl) | rfl))) | (apply q_store_p; (focus exact rfl); (focus (repeat (first | exact get_same | refine get_other (by omega) ?_))); (focus exact rfl); (focus exact Nat.le_of_ble_eq_true rfl); (focus (first | (simp only [Rg.pv, Pt.pv, List.take_zero, List.take_succ_cons, List.take_nil, List.drop_zero, List.drop_succ_cons, List.drop_nil, List.nil_append, List.cons_append, List.append_nil, List.map_cons, List.map_nil, List.replicate_succ, List.replicate_zero, List.flatten_cons, List.flatten_nil, Nat.zero_add, Nat.reduceAdd, chunk]; rfl) | rfl))) | (apply q_store_sl; (focus exact rfl); (focus (repeat (first | exact get_same | refine get_other (by omega) ?_))); (focus exact rfl); (focus exact Nat.le_of_ble_eq_true rfl); (focus (first | (simp only [Rg.pv, Pt.pv, List.take_zero, List.take_succ_cons, List.take_nil, List.drop_zero, List.drop_succ_cons, List.drop_nil, List.nil_append, List.cons_append, List.append_nil, List.map_cons, List.map_nil, List.replicate_succ, List.replicate_zero, List.flatten_cons, List.flatten_nil, Nat.zero_add, Nat.reduceAdd, chunk]; rfl) | rfl))) | (apply q_store_fn; (focus exact rfl); (focus (repeat (first | exact get_same | refine get_other (by omega) ?_))); (focus exact rfl); (focus exact Nat.le_of_ble_eq_true rfl); (focus (first | (simp only [Rg.pv, Pt.pv, List.take_zero, List.take_succ_cons, List.take_nil, List.drop_zero, List.drop_succ_cons, List.drop_nil, List.nil_append, List.cons_append, List.append_nil, List.map_cons, List.map_nil, List.replicate_succ, List.replicate_zero, List.flatten_cons, List.flatten_nil, Nat.zero_add, Nat.reduceAdd, chunk]; rfl) | rfl))))
              | (refine i_fadr ?_; first | refine q_fadr rfl rfl ?_ | refine q_fadr_ref rfl rfl ?_)
              | (refine i_iadrS ?_; first | (apply q_iadrS_nat; (focus exact rfl); (focus exact rfl); (focus exact get_map (by omega)); (focus exact rfl)))
              | (refine i_lenS ?_; first | refine q_lenS_map rfl ?_ | refine q_lenS rfl ?_)
              | (refine i_pick ?_; first | refine q_pick_t rfl ?_ | refine q_pick_f rfl ?_)
              | (refine i_alloc ?_; first | (refine q_alloc fun k hk => ?_))
              | (refine i_arith _ ?_; first
                | (refine i_arith .add ?_; first | (apply q_add; (focus exact rfl); (focus exact rfl); (focus exact wrap64 (by omega))))
                | (refine i_arith .lss ?_; first | refine q_lss rfl rfl (fun h => ?_) (fun h => ?_))
                | (refine i_arith .gtr ?_; first | refine q_gtr rfl rfl (fun h => ?_) (fun h => ?_))))
            | (refine i_guard ?_; first | refine q_on rfl ?_ | refine q_off rfl rfl ?_ | refine q_off_tup rfl ?_))
          | refine q_nil ?_
          | (refine i_awp ?_; first | refine q_seq ?_ | (refine q_reg fun n' hn' => ?_; simp only [List.length_cons, List.length_nil, Nat.zero_add, Nat.reduceAdd] at hn') | refine q_cond_t rfl ?_ | refine q_cond_f rfl ?_ | refine q_block ?_ | refine q_exit ?_ | refine q_ret ?_ | refine q_skip ?_)
          | refine q_normal ?_
          | refine q_seq_exit ?_
          | refine q_loop_exit ?_
          | refine q_loop_ret ?_
          | refine q_seq_ret ?_
          | refine q_block_normal ?_
          | refine q_block_ret ?_
          | refine q_block_hit ?_
          | refine q_block_miss rfl ?_
          )
        rotate_right 1
        · rw [List.drop_eq_nil_of_le (by omega)] at hb
          rw [← hb] at hs
          simp only [List.any_nil, Bool.false_eq_true, if_false] at hs
          refine q_loop_normal ⟨i + 1, n'⟩ ⟨by simp only; omega, by simp only; omega, hs⟩ (by simp only; omega) ?_
          dsimp only
          exact wk_mk hwf (by omega) (by omega) (by first | trivial | (simp only [keysP, and_true]; omega) | (repeat' (first | exact trivial | refine ⟨by omega, ?_⟩ | refine keys_vecB (fun k hk => by have := htk k hk; omega) ?_))) trivial (by simp only [fitsP]; repeat' (first | exact trivial | refine ⟨?_, ?_⟩ | exact .same trivial | exact wkV_out0 | exact wkV_out_eq hout (by omega) | exact wkV_ptr (by omega) | exact wkV_mapv (by omega) | exact .same (under_mono (by omega) hu.1) | exact .same (under_mono (by omega) hu.2.1) | exact .same (under_mono (by omega) hu.2.2.1) | exact wkV_int (by omega) | exact wkV_int (by simp) | exact .no _ _ _))
        all_goals
          have hd2 : rs[i].pts.drop m = rs[i].pts[m] :: rs[i].pts.drop (m + 1) := drop_cons (by omega)
          rw [hd2, List.any_cons] at hb
        · have hbd : badP rs[i].pts[m] = true := by simp only [badP, Bool.or_eq_true, decide_eq_true_eq]; omega
          rw [hbd, Bool.true_or] at hb
          rw [← hb, if_pos rfl] at hs
          (refine q_fin_int hwf rfl ?_ ?_ ?_; (focus (exact hs)); (focus (first | trivial | (simp only [keysP, and_true]; omega) | (repeat' (first | exact trivial | refine ⟨by omega, ?_⟩ | refine keys_vecB (fun k hk => by have := htk k hk; omega) ?_)))); omega)
        · have hbd : badP rs[i].pts[m] = true := by simp only [badP, Bool.or_eq_true, decide_eq_true_eq]; omega
          rw [hbd, Bool.true_or] at hb
          rw [← hb, if_pos rfl] at hs
          (refine q_fin_int hwf rfl ?_ ?_ ?_; (focus (exact hs)); (focus (first | trivial | (simp only [keysP, and_true]; omega) | (repeat' (first | exact trivial | refine ⟨by omega, ?_⟩ | refine keys_vecB (fun k hk => by have := htk k hk; omega) ?_)))); omega)
        · have hbd : badP rs[i].pts[m] = true := by simp only [badP, Bool.or_eq_true, decide_eq_true_eq]; omega
          rw [hbd, Bool.true_or] at hb
          rw [← hb, if_pos rfl] at hs
          (refine q_fin_int hwf rfl ?_ ?_ ?_; (focus (exact hs)); (focus (first | trivial | (simp only [keysP, and_true]; omega) | (repeat' (first | exact trivial | refine ⟨by omega, ?_⟩ | refine keys_vecB (fun k hk => by have := htk k hk; omega) ?_)))); omega)
        · have hbd : badP rs[i].pts[m] = true := by simp only [badP, Bool.or_eq_true, decide_eq_true_eq]; omega
          rw [hbd, Bool.true_or] at hb
          rw [← hb, if_pos rfl] at hs
          (refine q_fin_int hwf rfl ?_ ?_ ?_; (focus (exact hs)); (focus (first | trivial | (simp only [keysP, and_true]; omega) | (repeat' (first | exact trivial | refine ⟨by omega, ?_⟩ | refine keys_vecB (fun k hk => by have := htk k hk; omega) ?_)))); omega)
        · have hbd : badP rs[i].pts[m] = false := by simp only [badP, Bool.or_eq_false_iff, decide_eq_false_iff_not]; omega
          rw [hbd, Bool.false_or] at hb
          refine q_loop_normal ⟨m + 1, n'⟩ ⟨by simp only; omega, by simp only; omega, hb⟩ (by simp only; omega) ?_
          dsimp only
          exact wk_mk hwf (by omega) (by omega) (by first | trivial | (simp only [keysP, and_true]; omega) | (repeat' (first | exact trivial | refine ⟨by omega, ?_⟩ | refine keys_vecB (fun k hk => by have := htk k hk; omega) ?_))) trivial (by simp only [fitsP]; repeat' (first | exact trivial | refine ⟨?_, ?_⟩ | exact .same trivial | exact wkV_out0 | exact wkV_out_eq hout (by omega) | exact wkV_ptr (by omega) | exact wkV_mapv (by omega) | exact .same (under_mono (by omega) hu.1) | exact .same (under_mono (by omega) hu.2.1) | exact .same (under_mono (by omega) hu.2.2.1) | exact wkV_int (by omega) | exact wkV_int (by simp) | exact .no _ _ _))
    · rw [List.drop_eq_nil_of_le (by omega)] at hs
      (refine q_fin_int hwf rfl ?_ ?_ ?_; (focus (exact hs)); (focus (first | trivial | (simp only [keysP, and_true]; omega) | (repeat' (first | exact trivial | refine ⟨by omega, ?_⟩ | refine keys_vecB (fun k hk => by have := htk k hk; omega) ?_)))); omega)
end Go.Proofs.Ytinenepjloodcaa

