/- CONTRACTS: the document's bounds, put one by one. -/
import Derived.Test.YtakjakmhecfmiaaCwSPi
set_option linter.unusedVariables false
set_option linter.unusedSimpArgs false
set_option maxHeartbeats 8000000
set_option maxRecDepth 20000
namespace Go.Proofs.Ytakjakmhecfmiaa
open Go.Cw
attribute [local irreducible] aops awp seqQ blockQ seqC loopQ endQ getB outV vecB

structure PG where
  i : Nat
  n : Nat
  tk : Option Nat
  dn : Bool
  out : List Hf

theorem rows4s (l : List Hf) (r : List PV) (hr : r.length = 4) : ∀ e ∈ l.map Hf.pv ++ [r], e.length = 4 := by
  intro e he
  rcases List.mem_append.1 he with h | h
  · exact rows4 l e h
  · have : e = r := by simpa using h
    rw [this]; exact hr

theorem specP26 (S : St) (nl : Bool) (l : List Hf) (x : Hf) (hl : l.length ≤ 1000000) : ASpec Try.prog 26 [.p (.sl nl (l.map Hf.pv)), .agg [vi x.fx, vi x.fy, vi x.tx, vi x.ty]] S (slOf ((insL x l).map Hf.pv)) S := by
  refine q_fun hmix cP26 rfl (Nat.le_of_ble_eq_true rfl) fun hwf hu => ?_
  repeat' (first
    | refine q_seq ?_
    | (refine q_reg fun n' hn' => ?_; simp only [List.length_cons, List.length_nil, Nat.zero_add, Nat.reduceAdd] at hn')
    | refine q_mov_p rfl ?_
    | refine q_on rfl ?_
    | refine q_off rfl rfl ?_
    | refine q_off_tup rfl ?_
    | refine q_mov_agg rfl ?_
    | refine q_lss rfl rfl (fun h => ?_) (fun h => ?_)
    | refine q_pick_t rfl ?_
    | refine q_pick_f rfl ?_
    | refine q_nil_drawn trivial ?_
    | refine q_nil_drawn (sep1 rfl rfl (by omega) trivial) ?_
    | refine q_nil_drawn (sep1 rfl rfl (by omega) (sep1 rfl rfl (by omega) trivial)) ?_
    | refine q_nil ?_
    | refine q_normal ?_
    | refine q_cond_t rfl ?_
    | refine q_cond_f rfl ?_
    | refine q_block ?_
    | refine q_exit ?_
    | refine q_ret ?_
    | refine q_skip ?_
    | refine q_seq_exit ?_
    | refine q_loop_exit ?_
    | refine q_loop_ret ?_
    | refine q_seq_ret ?_
    | refine q_block_normal ?_
    | refine q_block_ret ?_
    | refine q_block_hit ?_
    | refine q_block_miss rfl ?_
    | refine q_add rfl rfl (wrap64 (by omega)) ?_
    | refine q_not rfl rfl ?_
    | refine q_mov_ptr rfl ?_
    | refine q_mov_ref rfl ?_
    | refine q_mov_sl rfl ?_
    | refine q_mov_fn rfl ?_
    | refine q_loadA_ref rfl (Nat.le_of_ble_eq_true rfl) (by first | (simp only [Lk.pv, Sd.pv, Hf.pv, List.take_zero, List.take_succ_cons, List.take_nil, List.drop_zero, List.drop_succ_cons, List.drop_nil, List.nil_append, List.cons_append, List.append_nil, List.map_cons, List.map_nil, List.replicate_succ, List.replicate_zero, List.flatten_cons, List.flatten_nil, Nat.zero_add, Nat.reduceAdd, chunk]; rfl) | rfl) ?_
    | refine q_loadA rfl (by repeat (first | exact get_same | refine get_other (by omega) ?_)) (Nat.le_of_ble_eq_true rfl) (by first | (simp only [Lk.pv, Sd.pv, Hf.pv, List.take_zero, List.take_succ_cons, List.take_nil, List.drop_zero, List.drop_succ_cons, List.drop_nil, List.nil_append, List.cons_append, List.append_nil, List.map_cons, List.map_nil, List.replicate_succ, List.replicate_zero, List.flatten_cons, List.flatten_nil, Nat.zero_add, Nat.reduceAdd, chunk]; rfl) | rfl) ?_
    | refine q_lenS_map rfl ?_
    | refine q_lenS rfl ?_
    | refine q_nil_drawn trivial ?_
    | (refine q_drawn fun n' hn' => ?_; simp only [List.length_cons, List.length_nil, Nat.zero_add, Nat.reduceAdd] at hn')
    | refine q_iadrS_nat rfl rfl (get_map (by omega)) rfl ?_
    | refine q_mov_out rfl ?_
    | refine q_mov_tup rfl ?_
    | (apply q_bslice; (focus (repeat' (first | exact fill_nil | (apply fill_p rfl (Nat.le_of_ble_eq_true rfl); (focus (first | (simp only [Lk.pv, Sd.pv, Hf.pv, List.take_zero, List.take_succ_cons, List.take_nil, List.drop_zero, List.drop_succ_cons, List.drop_nil, List.nil_append, List.cons_append, List.append_nil, List.map_cons, List.map_nil, List.replicate_succ, List.replicate_zero, List.flatten_cons, List.flatten_nil, Nat.zero_add, Nat.reduceAdd, chunk]; rfl) | rfl))) | (apply fill_agg; (focus rfl); (focus rfl); (focus exact Nat.le_of_ble_eq_true rfl); (focus (first | (simp only [Lk.pv, Sd.pv, Hf.pv, List.take_zero, List.take_succ_cons, List.take_nil, List.drop_zero, List.drop_succ_cons, List.drop_nil, List.nil_append, List.cons_append, List.append_nil, List.map_cons, List.map_nil, List.replicate_succ, List.replicate_zero, List.flatten_cons, List.flatten_nil, Nat.zero_add, Nat.reduceAdd, chunk]; rfl) | rfl))) | (apply fill_sl rfl (Nat.le_of_ble_eq_true rfl); (focus (first | (simp only [Lk.pv, Sd.pv, Hf.pv, List.take_zero, List.take_succ_cons, List.take_nil, List.drop_zero, List.drop_succ_cons, List.drop_nil, List.nil_append, List.cons_append, List.append_nil, List.map_cons, List.map_nil, List.replicate_succ, List.replicate_zero, List.flatten_cons, List.flatten_nil, Nat.zero_add, Nat.reduceAdd, chunk]; rfl) | rfl))) | (apply fill_fn rfl (Nat.le_of_ble_eq_true rfl); (focus (first | (simp only [Lk.pv, Sd.pv, Hf.pv, List.take_zero, List.take_succ_cons, List.take_nil, List.drop_zero, List.drop_succ_cons, List.drop_nil, List.nil_append, List.cons_append, List.append_nil, List.map_cons, List.map_nil, List.replicate_succ, List.replicate_zero, List.flatten_cons, List.flatten_nil, Nat.zero_add, Nat.reduceAdd, chunk]; rfl) | rfl))) | (apply fill_ptr rfl (Nat.le_of_ble_eq_true rfl); (focus (first | (simp only [Lk.pv, Sd.pv, Hf.pv, List.take_zero, List.take_succ_cons, List.take_nil, List.drop_zero, List.drop_succ_cons, List.drop_nil, List.nil_append, List.cons_append, List.append_nil, List.map_cons, List.map_nil, List.replicate_succ, List.replicate_zero, List.flatten_cons, List.flatten_nil, Nat.zero_add, Nat.reduceAdd, chunk]; rfl) | rfl)))))); (focus rfl); (focus (first | (simp only [Lk.pv, Sd.pv, Hf.pv, List.take_zero, List.take_succ_cons, List.take_nil, List.drop_zero, List.drop_succ_cons, List.drop_nil, List.nil_append, List.cons_append, List.append_nil, List.map_cons, List.map_nil, List.replicate_succ, List.replicate_zero, List.flatten_cons, List.flatten_nil, Nat.zero_add, Nat.reduceAdd, chunk]; rfl) | rfl)))
    )
  refine q_box_agg rfl fun k3 hk3 => ?_
  repeat' (first
    | refine q_seq ?_
    | (refine q_reg fun n' hn' => ?_; simp only [List.length_cons, List.length_nil, Nat.zero_add, Nat.reduceAdd] at hn')
    | refine q_mov_p rfl ?_
    | refine q_on rfl ?_
    | refine q_off rfl rfl ?_
    | refine q_off_tup rfl ?_
    | refine q_mov_agg rfl ?_
    | refine q_lss rfl rfl (fun h => ?_) (fun h => ?_)
    | refine q_pick_t rfl ?_
    | refine q_pick_f rfl ?_
    | refine q_nil_drawn trivial ?_
    | refine q_nil_drawn (sep1 rfl rfl (by omega) trivial) ?_
    | refine q_nil_drawn (sep1 rfl rfl (by omega) (sep1 rfl rfl (by omega) trivial)) ?_
    | refine q_nil ?_
    | refine q_normal ?_
    | refine q_cond_t rfl ?_
    | refine q_cond_f rfl ?_
    | refine q_block ?_
    | refine q_exit ?_
    | refine q_ret ?_
    | refine q_skip ?_
    | refine q_seq_exit ?_
    | refine q_loop_exit ?_
    | refine q_loop_ret ?_
    | refine q_seq_ret ?_
    | refine q_block_normal ?_
    | refine q_block_ret ?_
    | refine q_block_hit ?_
    | refine q_block_miss rfl ?_
    | refine q_add rfl rfl (wrap64 (by omega)) ?_
    | refine q_not rfl rfl ?_
    | (refine q_box_agg rfl fun k hk => ?_)
    | (refine q_box_p rfl fun k hk => ?_)
    | (refine q_box_sl rfl fun k hk => ?_)
    | (refine q_box_fn rfl fun k hk => ?_)
    | refine q_mov_ptr rfl ?_
    | refine q_mov_ref rfl ?_
    | refine q_mov_sl rfl ?_
    | refine q_mov_fn rfl ?_
    | refine q_loadA_ref rfl (Nat.le_of_ble_eq_true rfl) (by first | (simp only [Lk.pv, Sd.pv, Hf.pv, List.take_zero, List.take_succ_cons, List.take_nil, List.drop_zero, List.drop_succ_cons, List.drop_nil, List.nil_append, List.cons_append, List.append_nil, List.map_cons, List.map_nil, List.replicate_succ, List.replicate_zero, List.flatten_cons, List.flatten_nil, Nat.zero_add, Nat.reduceAdd, chunk]; rfl) | rfl) ?_
    | refine q_loadA rfl (by repeat (first | exact get_same | refine get_other (by omega) ?_)) (Nat.le_of_ble_eq_true rfl) (by first | (simp only [Lk.pv, Sd.pv, Hf.pv, List.take_zero, List.take_succ_cons, List.take_nil, List.drop_zero, List.drop_succ_cons, List.drop_nil, List.nil_append, List.cons_append, List.append_nil, List.map_cons, List.map_nil, List.replicate_succ, List.replicate_zero, List.flatten_cons, List.flatten_nil, Nat.zero_add, Nat.reduceAdd, chunk]; rfl) | rfl) ?_
    | refine q_lenS_map rfl ?_
    | refine q_lenS rfl ?_
    | refine q_nil_drawn trivial ?_
    | (refine q_drawn fun n' hn' => ?_; simp only [List.length_cons, List.length_nil, Nat.zero_add, Nat.reduceAdd] at hn')
    | refine q_iadrS_nat rfl rfl (get_map (by omega)) rfl ?_
    | refine q_mov_out rfl ?_
    | refine q_mov_tup rfl ?_
    | (apply q_bslice; (focus (repeat' (first | exact fill_nil | (apply fill_p rfl (Nat.le_of_ble_eq_true rfl); (focus (first | (simp only [Lk.pv, Sd.pv, Hf.pv, List.take_zero, List.take_succ_cons, List.take_nil, List.drop_zero, List.drop_succ_cons, List.drop_nil, List.nil_append, List.cons_append, List.append_nil, List.map_cons, List.map_nil, List.replicate_succ, List.replicate_zero, List.flatten_cons, List.flatten_nil, Nat.zero_add, Nat.reduceAdd, chunk]; rfl) | rfl))) | (apply fill_agg; (focus rfl); (focus rfl); (focus exact Nat.le_of_ble_eq_true rfl); (focus (first | (simp only [Lk.pv, Sd.pv, Hf.pv, List.take_zero, List.take_succ_cons, List.take_nil, List.drop_zero, List.drop_succ_cons, List.drop_nil, List.nil_append, List.cons_append, List.append_nil, List.map_cons, List.map_nil, List.replicate_succ, List.replicate_zero, List.flatten_cons, List.flatten_nil, Nat.zero_add, Nat.reduceAdd, chunk]; rfl) | rfl))) | (apply fill_sl rfl (Nat.le_of_ble_eq_true rfl); (focus (first | (simp only [Lk.pv, Sd.pv, Hf.pv, List.take_zero, List.take_succ_cons, List.take_nil, List.drop_zero, List.drop_succ_cons, List.drop_nil, List.nil_append, List.cons_append, List.append_nil, List.map_cons, List.map_nil, List.replicate_succ, List.replicate_zero, List.flatten_cons, List.flatten_nil, Nat.zero_add, Nat.reduceAdd, chunk]; rfl) | rfl))) | (apply fill_fn rfl (Nat.le_of_ble_eq_true rfl); (focus (first | (simp only [Lk.pv, Sd.pv, Hf.pv, List.take_zero, List.take_succ_cons, List.take_nil, List.drop_zero, List.drop_succ_cons, List.drop_nil, List.nil_append, List.cons_append, List.append_nil, List.map_cons, List.map_nil, List.replicate_succ, List.replicate_zero, List.flatten_cons, List.flatten_nil, Nat.zero_add, Nat.reduceAdd, chunk]; rfl) | rfl))) | (apply fill_ptr rfl (Nat.le_of_ble_eq_true rfl); (focus (first | (simp only [Lk.pv, Sd.pv, Hf.pv, List.take_zero, List.take_succ_cons, List.take_nil, List.drop_zero, List.drop_succ_cons, List.drop_nil, List.nil_append, List.cons_append, List.append_nil, List.map_cons, List.map_nil, List.replicate_succ, List.replicate_zero, List.flatten_cons, List.flatten_nil, Nat.zero_add, Nat.reduceAdd, chunk]; rfl) | rfl)))))); (focus rfl); (focus (first | (simp only [Lk.pv, Sd.pv, Hf.pv, List.take_zero, List.take_succ_cons, List.take_nil, List.drop_zero, List.drop_succ_cons, List.drop_nil, List.nil_append, List.cons_append, List.append_nil, List.map_cons, List.map_nil, List.replicate_succ, List.replicate_zero, List.flatten_cons, List.flatten_nil, Nat.zero_add, Nat.reduceAdd, chunk]; rfl) | rfl)))
    )
  refine q_loop (γ := PG) (fun g => [(0, .p (.sl nl (l.map Hf.pv))), (3, .ptr k3 0), (5, outV (g.out.map Hf.pv) g.tk), (6, vb g.dn), (7, vi g.i)]) (fun g => ST S g.n (vecB g.tk (g.out.map Hf.pv).length 4 [(k3, .cells [vi x.fx, vi x.fy, vi x.tx, vi x.ty])]))
    (fun g => g.i ≤ l.length ∧ n' ≤ g.n ∧ g.out.length ≤ g.i + (if g.dn then 1 else 0) ∧ insL x l = g.out ++ (if g.dn then l.drop g.i else insL x (l.drop g.i)) ∧ (g.dn = true → g.out ≠ []) ∧ (g.tk = none → g.out = []) ∧ ∀ k, g.tk = some k → n' ≤ k ∧ k < g.n ∧ g.out ≠ []) (fun g => l.length - g.i) ⟨0, n', none, false, []⟩ (by simp) ?_ ?_
  · dsimp only
    refine wk_mk hwf (by omega) (by omega) (by first | trivial | (simp only [keysP, and_true]; omega) | (repeat' (first | exact trivial | refine ⟨by omega, ?_⟩ | refine keys_vecB (fun k hk => by have := htk k hk; omega) ?_))) (blks_vecB (fun k hk => by cases hk) ⟨⟨(by repeat (first | exact get_same | refine get_other (by omega) ?_)), by omega, trivial, trivial, trivial, trivial, trivial⟩, trivial⟩) ?_
    simp only [fitsP]
    exact ⟨.same trivial, wkV_ptr (by omega), wkV_out0, .same trivial, .same trivial, trivial⟩
  · rintro ⟨i, n0, tk, dn, out⟩ ⟨hi, hn0, hol, hout0, hdn, htk0, htk⟩
    dsimp only at *
    have hd1 : (if dn = true then 1 else 0) ≤ 1 := by split <;> omega
    have hln : (out.map Hf.pv).length ≤ 1000001 := by rw [List.length_map]; omega
    cases dn
    · skip
      repeat' (first
        | refine q_iadrS_nat (pv := Hf.pv) (i := i) rfl rfl (get_map (by omega)) rfl ?_
        | refine q_loadA (k := k3) rfl (by (repeat (refine get_other (by omega) ?_)); exact get_vecB_out (fun k' hk' => by have := htk k' hk'; omega) get_same) (Nat.le_of_ble_eq_true rfl) (by first | (simp only [Lk.pv, Sd.pv, Hf.pv, List.take_zero, List.take_succ_cons, List.take_nil, List.drop_zero, List.drop_succ_cons, List.drop_nil, List.nil_append, List.cons_append, List.append_nil, List.map_cons, List.map_nil, List.replicate_succ, List.replicate_zero, List.flatten_cons, List.flatten_nil, Nat.zero_add, Nat.reduceAdd, chunk]; rfl) | rfl) ?_
        | refine q_call_b (b := aheadH x (l[i]'(by omega))) (fun S => specP14 S x.fx x.fy x.tx x.ty (l[i]'(by omega)).fx (l[i]'(by omega)).fy (l[i]'(by omega)).tx (l[i]'(by omega)).ty) (fun hb => ?_) (fun hb => ?_)
        | (refine q_append_out (tk := tk) rfl rfl (rows4 _) rfl (by omega) (by omega) (fun k hk => by have := htk k hk; (repeat (refine get_other (by omega) ?_)); exact get_vecB_self k hk) (fun k9 hk9 => ?_))
        | (refine q_append_out (tk := some k9) rfl rfl (rows4s _ _ rfl) rfl (by simp only [List.length_append, List.length_cons, List.length_nil]; omega) (by simp only [List.length_append, List.length_cons, List.length_nil]; omega) (fun k hk => by cases hk; rw [List.length_append]; (repeat (refine get_other (by omega) ?_)); exact get_same) (fun k10 hk10 => ?_))
        | refine q_seq ?_
        | (refine q_reg fun n' hn' => ?_; simp only [List.length_cons, List.length_nil, Nat.zero_add, Nat.reduceAdd] at hn')
        | refine q_mov_p rfl ?_
        | refine q_on rfl ?_
        | refine q_off rfl rfl ?_
        | refine q_off_tup rfl ?_
        | refine q_mov_agg rfl ?_
        | refine q_lss rfl rfl (fun h => ?_) (fun h => ?_)
        | refine q_pick_t rfl ?_
        | refine q_pick_f rfl ?_
        | refine q_nil_drawn trivial ?_
        | refine q_nil_drawn (sep1 rfl rfl (by omega) trivial) ?_
        | refine q_nil_drawn (sep1 rfl rfl (by omega) (sep1 rfl rfl (by omega) trivial)) ?_
        | refine q_nil ?_
        | refine q_normal ?_
        | refine q_cond_t rfl ?_
        | refine q_cond_f rfl ?_
        | refine q_block ?_
        | refine q_exit ?_
        | refine q_ret ?_
        | refine q_skip ?_
        | refine q_seq_exit ?_
        | refine q_loop_exit ?_
        | refine q_loop_ret ?_
        | refine q_seq_ret ?_
        | refine q_block_normal ?_
        | refine q_block_ret ?_
        | refine q_block_hit ?_
        | refine q_block_miss rfl ?_
        | refine q_add rfl rfl (wrap64 (by omega)) ?_
        | refine q_not rfl rfl ?_
        | (refine q_box_agg rfl fun k hk => ?_)
        | (refine q_box_p rfl fun k hk => ?_)
        | (refine q_box_sl rfl fun k hk => ?_)
        | (refine q_box_fn rfl fun k hk => ?_)
        | refine q_mov_ptr rfl ?_
        | refine q_mov_ref rfl ?_
        | refine q_mov_sl rfl ?_
        | refine q_mov_fn rfl ?_
        | refine q_loadA_ref rfl (Nat.le_of_ble_eq_true rfl) (by first | (simp only [Lk.pv, Sd.pv, Hf.pv, List.take_zero, List.take_succ_cons, List.take_nil, List.drop_zero, List.drop_succ_cons, List.drop_nil, List.nil_append, List.cons_append, List.append_nil, List.map_cons, List.map_nil, List.replicate_succ, List.replicate_zero, List.flatten_cons, List.flatten_nil, Nat.zero_add, Nat.reduceAdd, chunk]; rfl) | rfl) ?_
        | refine q_loadA rfl (by repeat (first | exact get_same | refine get_other (by omega) ?_)) (Nat.le_of_ble_eq_true rfl) (by first | (simp only [Lk.pv, Sd.pv, Hf.pv, List.take_zero, List.take_succ_cons, List.take_nil, List.drop_zero, List.drop_succ_cons, List.drop_nil, List.nil_append, List.cons_append, List.append_nil, List.map_cons, List.map_nil, List.replicate_succ, List.replicate_zero, List.flatten_cons, List.flatten_nil, Nat.zero_add, Nat.reduceAdd, chunk]; rfl) | rfl) ?_
        | refine q_lenS_map rfl ?_
        | refine q_lenS rfl ?_
        | refine q_nil_drawn trivial ?_
        | (refine q_drawn fun n' hn' => ?_; simp only [List.length_cons, List.length_nil, Nat.zero_add, Nat.reduceAdd] at hn')
        | refine q_iadrS_nat rfl rfl (get_map (by omega)) rfl ?_
        | refine q_mov_out rfl ?_
        | refine q_mov_tup rfl ?_
        | (apply q_bslice; (focus (repeat' (first | exact fill_nil | (apply fill_p rfl (Nat.le_of_ble_eq_true rfl); (focus (first | (simp only [Lk.pv, Sd.pv, Hf.pv, List.take_zero, List.take_succ_cons, List.take_nil, List.drop_zero, List.drop_succ_cons, List.drop_nil, List.nil_append, List.cons_append, List.append_nil, List.map_cons, List.map_nil, List.replicate_succ, List.replicate_zero, List.flatten_cons, List.flatten_nil, Nat.zero_add, Nat.reduceAdd, chunk]; rfl) | rfl))) | (apply fill_agg; (focus rfl); (focus rfl); (focus exact Nat.le_of_ble_eq_true rfl); (focus (first | (simp only [Lk.pv, Sd.pv, Hf.pv, List.take_zero, List.take_succ_cons, List.take_nil, List.drop_zero, List.drop_succ_cons, List.drop_nil, List.nil_append, List.cons_append, List.append_nil, List.map_cons, List.map_nil, List.replicate_succ, List.replicate_zero, List.flatten_cons, List.flatten_nil, Nat.zero_add, Nat.reduceAdd, chunk]; rfl) | rfl))) | (apply fill_sl rfl (Nat.le_of_ble_eq_true rfl); (focus (first | (simp only [Lk.pv, Sd.pv, Hf.pv, List.take_zero, List.take_succ_cons, List.take_nil, List.drop_zero, List.drop_succ_cons, List.drop_nil, List.nil_append, List.cons_append, List.append_nil, List.map_cons, List.map_nil, List.replicate_succ, List.replicate_zero, List.flatten_cons, List.flatten_nil, Nat.zero_add, Nat.reduceAdd, chunk]; rfl) | rfl))) | (apply fill_fn rfl (Nat.le_of_ble_eq_true rfl); (focus (first | (simp only [Lk.pv, Sd.pv, Hf.pv, List.take_zero, List.take_succ_cons, List.take_nil, List.drop_zero, List.drop_succ_cons, List.drop_nil, List.nil_append, List.cons_append, List.append_nil, List.map_cons, List.map_nil, List.replicate_succ, List.replicate_zero, List.flatten_cons, List.flatten_nil, Nat.zero_add, Nat.reduceAdd, chunk]; rfl) | rfl))) | (apply fill_ptr rfl (Nat.le_of_ble_eq_true rfl); (focus (first | (simp only [Lk.pv, Sd.pv, Hf.pv, List.take_zero, List.take_succ_cons, List.take_nil, List.drop_zero, List.drop_succ_cons, List.drop_nil, List.nil_append, List.cons_append, List.append_nil, List.map_cons, List.map_nil, List.replicate_succ, List.replicate_zero, List.flatten_cons, List.flatten_nil, Nat.zero_add, Nat.reduceAdd, chunk]; rfl) | rfl)))))); (focus rfl); (focus (first | (simp only [Lk.pv, Sd.pv, Hf.pv, List.take_zero, List.take_succ_cons, List.take_nil, List.drop_zero, List.drop_succ_cons, List.drop_nil, List.nil_append, List.cons_append, List.append_nil, List.map_cons, List.map_nil, List.replicate_succ, List.replicate_zero, List.flatten_cons, List.flatten_nil, Nat.zero_add, Nat.reduceAdd, chunk]; rfl) | rfl)))
        )
      · have hdl : l.drop i = l[i] :: l.drop (i + 1) := drop_cons (by omega)
        rw [hdl] at hout0
        have hk9' : k9 < n' ∧ S.n ≤ k9 ∧ k3 < k9 := by
          rcases hk9 with ⟨_, h5⟩ | h5
          · omega
          · have := htk _ h5; omega
        have hk10' : k10 = k9 := by
          rcases hk10 with ⟨h5, _⟩ | h5
          · cases h5
          · cases h5; rfl
        subst hk10'
        have hlen' : ((out ++ [x, l[i]]).map Hf.pv).length = (out.map Hf.pv ++ [x.pv]).length + 1 := by simp
        have heq : (out.map Hf.pv ++ [x.pv]) ++ [l[i].pv] = (out ++ [x, l[i]]).map Hf.pv := by simp [Hf.pv]
        refine q_loop_normal ⟨i + 1, n', some k10, true, out ++ [x, l[i]]⟩ ⟨by simp only; omega, by simp only; omega, by simp only [List.length_append, List.length_cons, List.length_nil] at *; (first | omega | (simp at hol ⊢; omega)), ?_, by simp, by simp, ?_⟩ (by simp only; omega) ?_
        · simp only [Bool.false_eq_true, if_false, if_true, insL] at hout0 ⊢; rw [if_pos hb] at hout0; rw [hout0]; simp
        · intro k hk
          cases hk
          rcases hk9 with ⟨_, h5⟩ | h5
          · exact ⟨by omega, by simp only; omega, by simp⟩
          · have := htk _ h5; exact ⟨by omega, by simp only; omega, by simp⟩
        · dsimp only
          refine wk_mk hwf (by omega) (by omega) (by first | trivial | (simp only [keysP, and_true]; omega) | (repeat' (first | exact trivial | refine ⟨by omega, ?_⟩ | refine keys_vecB (fun k hk => by have := htk k hk; omega) ?_))) (blks_vecB (fun k hk => by cases hk; exact ⟨by rw [hlen']; exact get_same, by omega⟩) ⟨⟨(by (repeat (refine get_other (by omega) ?_)); exact get_vecB_out (fun k' hk' => by have := htk k' hk'; omega) get_same), by omega, trivial, trivial, trivial, trivial, trivial⟩, trivial⟩) ?_
          simp only [fitsP]
          exact ⟨.same trivial, wkV_ptr (by omega), wkV_out_eq heq (by omega), .same trivial, wkV_int (by omega), trivial⟩
      · have hdl : l.drop i = l[i] :: l.drop (i + 1) := drop_cons (by omega)
        rw [hdl] at hout0
        have hk9' : k9 < n' ∧ S.n ≤ k9 ∧ k3 < k9 := by
          rcases hk9 with ⟨_, h5⟩ | h5
          · omega
          · have := htk _ h5; omega
        have hlen' : ((out ++ [l[i]]).map Hf.pv).length = (out.map Hf.pv).length + 1 := by simp
        have heq : out.map Hf.pv ++ [l[i].pv] = (out ++ [l[i]]).map Hf.pv := by simp [Hf.pv]
        refine q_loop_normal ⟨i + 1, n', some k9, false, out ++ [l[i]]⟩ ⟨by simp only; omega, by simp only; omega, by simp only [List.length_append, List.length_cons, List.length_nil] at *; (first | omega | (simp at hol ⊢; omega)), ?_, by simp, by simp, ?_⟩ (by simp only; omega) ?_
        · simp only [Bool.false_eq_true, if_false, insL] at hout0 ⊢; rw [if_neg (by simp [hb])] at hout0; rw [hout0]; simp
        · intro k hk
          cases hk
          rcases hk9 with ⟨_, h5⟩ | h5
          · exact ⟨by omega, by simp only; omega, by simp⟩
          · have := htk _ h5; exact ⟨by omega, by simp only; omega, by simp⟩
        · dsimp only
          refine wk_mk hwf (by omega) (by omega) (by first | trivial | (simp only [keysP, and_true]; omega) | (repeat' (first | exact trivial | refine ⟨by omega, ?_⟩ | refine keys_vecB (fun k hk => by have := htk k hk; omega) ?_))) (blks_vecB (fun k hk => by cases hk; exact ⟨by rw [hlen']; exact get_same, by omega⟩) ⟨⟨(by (repeat (refine get_other (by omega) ?_)); exact get_vecB_out (fun k' hk' => by have := htk k' hk'; omega) get_same), by omega, trivial, trivial, trivial, trivial, trivial⟩, trivial⟩) ?_
          simp only [fitsP]
          exact ⟨.same trivial, wkV_ptr (by omega), wkV_out_eq heq (by omega), .same trivial, wkV_int (by omega), trivial⟩
      · have hdl : l.drop i = [] := List.drop_eq_nil_of_le (by omega)
        rw [hdl] at hout0
        simp only [Bool.false_eq_true, if_false, insL] at hout0
        have hk9' : k9 < n' ∧ S.n ≤ k9 ∧ k3 < k9 := by
          rcases hk9 with ⟨_, h5⟩ | h5
          · omega
          · have := htk _ h5; omega
        refine q_end_ret hwf (res_out rfl) ?_ (by first | trivial | (simp only [keysP, and_true]; omega) | (repeat' (first | exact trivial | refine ⟨by omega, ?_⟩ | refine keys_vecB (fun k hk => by have := htk k hk; omega) ?_))) (by omega)
        have e : (insL x l).map Hf.pv = out.map Hf.pv ++ [x.pv] := by rw [hout0]; simp
        rw [e]
        exact wkV_out (fun h => by cases h) (fun _ _ => by simp)
    · skip
      repeat' (first
        | refine q_iadrS_nat (pv := Hf.pv) (i := i) rfl rfl (get_map (by omega)) rfl ?_
        | refine q_loadA (k := k3) rfl (by (repeat (refine get_other (by omega) ?_)); exact get_vecB_out (fun k' hk' => by have := htk k' hk'; omega) get_same) (Nat.le_of_ble_eq_true rfl) (by first | (simp only [Lk.pv, Sd.pv, Hf.pv, List.take_zero, List.take_succ_cons, List.take_nil, List.drop_zero, List.drop_succ_cons, List.drop_nil, List.nil_append, List.cons_append, List.append_nil, List.map_cons, List.map_nil, List.replicate_succ, List.replicate_zero, List.flatten_cons, List.flatten_nil, Nat.zero_add, Nat.reduceAdd, chunk]; rfl) | rfl) ?_
        | refine q_call_b (b := aheadH x (l[i]'(by omega))) (fun S => specP14 S x.fx x.fy x.tx x.ty (l[i]'(by omega)).fx (l[i]'(by omega)).fy (l[i]'(by omega)).tx (l[i]'(by omega)).ty) (fun hb => ?_) (fun hb => ?_)
        | (refine q_append_out (tk := tk) rfl rfl (rows4 _) rfl (by omega) (by omega) (fun k hk => by have := htk k hk; (repeat (refine get_other (by omega) ?_)); exact get_vecB_self k hk) (fun k9 hk9 => ?_))
        | (refine q_append_out (tk := some k9) rfl rfl (rows4s _ _ rfl) rfl (by simp only [List.length_append, List.length_cons, List.length_nil]; omega) (by simp only [List.length_append, List.length_cons, List.length_nil]; omega) (fun k hk => by cases hk; rw [List.length_append]; (repeat (refine get_other (by omega) ?_)); exact get_same) (fun k10 hk10 => ?_))
        | refine q_seq ?_
        | (refine q_reg fun n' hn' => ?_; simp only [List.length_cons, List.length_nil, Nat.zero_add, Nat.reduceAdd] at hn')
        | refine q_mov_p rfl ?_
        | refine q_on rfl ?_
        | refine q_off rfl rfl ?_
        | refine q_off_tup rfl ?_
        | refine q_mov_agg rfl ?_
        | refine q_lss rfl rfl (fun h => ?_) (fun h => ?_)
        | refine q_pick_t rfl ?_
        | refine q_pick_f rfl ?_
        | refine q_nil_drawn trivial ?_
        | refine q_nil_drawn (sep1 rfl rfl (by omega) trivial) ?_
        | refine q_nil_drawn (sep1 rfl rfl (by omega) (sep1 rfl rfl (by omega) trivial)) ?_
        | refine q_nil ?_
        | refine q_normal ?_
        | refine q_cond_t rfl ?_
        | refine q_cond_f rfl ?_
        | refine q_block ?_
        | refine q_exit ?_
        | refine q_ret ?_
        | refine q_skip ?_
        | refine q_seq_exit ?_
        | refine q_loop_exit ?_
        | refine q_loop_ret ?_
        | refine q_seq_ret ?_
        | refine q_block_normal ?_
        | refine q_block_ret ?_
        | refine q_block_hit ?_
        | refine q_block_miss rfl ?_
        | refine q_add rfl rfl (wrap64 (by omega)) ?_
        | refine q_not rfl rfl ?_
        | (refine q_box_agg rfl fun k hk => ?_)
        | (refine q_box_p rfl fun k hk => ?_)
        | (refine q_box_sl rfl fun k hk => ?_)
        | (refine q_box_fn rfl fun k hk => ?_)
        | refine q_mov_ptr rfl ?_
        | refine q_mov_ref rfl ?_
        | refine q_mov_sl rfl ?_
        | refine q_mov_fn rfl ?_
        | refine q_loadA_ref rfl (Nat.le_of_ble_eq_true rfl) (by first | (simp only [Lk.pv, Sd.pv, Hf.pv, List.take_zero, List.take_succ_cons, List.take_nil, List.drop_zero, List.drop_succ_cons, List.drop_nil, List.nil_append, List.cons_append, List.append_nil, List.map_cons, List.map_nil, List.replicate_succ, List.replicate_zero, List.flatten_cons, List.flatten_nil, Nat.zero_add, Nat.reduceAdd, chunk]; rfl) | rfl) ?_
        | refine q_loadA rfl (by repeat (first | exact get_same | refine get_other (by omega) ?_)) (Nat.le_of_ble_eq_true rfl) (by first | (simp only [Lk.pv, Sd.pv, Hf.pv, List.take_zero, List.take_succ_cons, List.take_nil, List.drop_zero, List.drop_succ_cons, List.drop_nil, List.nil_append, List.cons_append, List.append_nil, List.map_cons, List.map_nil, List.replicate_succ, List.replicate_zero, List.flatten_cons, List.flatten_nil, Nat.zero_add, Nat.reduceAdd, chunk]; rfl) | rfl) ?_
        | refine q_lenS_map rfl ?_
        | refine q_lenS rfl ?_
        | refine q_nil_drawn trivial ?_
        | (refine q_drawn fun n' hn' => ?_; simp only [List.length_cons, List.length_nil, Nat.zero_add, Nat.reduceAdd] at hn')
        | refine q_iadrS_nat rfl rfl (get_map (by omega)) rfl ?_
        | refine q_mov_out rfl ?_
        | refine q_mov_tup rfl ?_
        | (apply q_bslice; (focus (repeat' (first | exact fill_nil | (apply fill_p rfl (Nat.le_of_ble_eq_true rfl); (focus (first | (simp only [Lk.pv, Sd.pv, Hf.pv, List.take_zero, List.take_succ_cons, List.take_nil, List.drop_zero, List.drop_succ_cons, List.drop_nil, List.nil_append, List.cons_append, List.append_nil, List.map_cons, List.map_nil, List.replicate_succ, List.replicate_zero, List.flatten_cons, List.flatten_nil, Nat.zero_add, Nat.reduceAdd, chunk]; rfl) | rfl))) | (apply fill_agg; (focus rfl); (focus rfl); (focus exact Nat.le_of_ble_eq_true rfl); (focus (first | (simp only [Lk.pv, Sd.pv, Hf.pv, List.take_zero, List.take_succ_cons, List.take_nil, List.drop_zero, List.drop_succ_cons, List.drop_nil, List.nil_append, List.cons_append, List.append_nil, List.map_cons, List.map_nil, List.replicate_succ, List.replicate_zero, List.flatten_cons, List.flatten_nil, Nat.zero_add, Nat.reduceAdd, chunk]; rfl) | rfl))) | (apply fill_sl rfl (Nat.le_of_ble_eq_true rfl); (focus (first | (simp only [Lk.pv, Sd.pv, Hf.pv, List.take_zero, List.take_succ_cons, List.take_nil, List.drop_zero, List.drop_succ_cons, List.drop_nil, List.nil_append, List.cons_append, List.append_nil, List.map_cons, List.map_nil, List.replicate_succ, List.replicate_zero, List.flatten_cons, List.flatten_nil, Nat.zero_add, Nat.reduceAdd, chunk]; rfl) | rfl))) | (apply fill_fn rfl (Nat.le_of_ble_eq_true rfl); (focus (first | (simp only [Lk.pv, Sd.pv, Hf.pv, List.take_zero, List.take_succ_cons, List.take_nil, List.drop_zero, List.drop_succ_cons, List.drop_nil, List.nil_append, List.cons_append, List.append_nil, List.map_cons, List.map_nil, List.replicate_succ, List.replicate_zero, List.flatten_cons, List.flatten_nil, Nat.zero_add, Nat.reduceAdd, chunk]; rfl) | rfl))) | (apply fill_ptr rfl (Nat.le_of_ble_eq_true rfl); (focus (first | (simp only [Lk.pv, Sd.pv, Hf.pv, List.take_zero, List.take_succ_cons, List.take_nil, List.drop_zero, List.drop_succ_cons, List.drop_nil, List.nil_append, List.cons_append, List.append_nil, List.map_cons, List.map_nil, List.replicate_succ, List.replicate_zero, List.flatten_cons, List.flatten_nil, Nat.zero_add, Nat.reduceAdd, chunk]; rfl) | rfl)))))); (focus rfl); (focus (first | (simp only [Lk.pv, Sd.pv, Hf.pv, List.take_zero, List.take_succ_cons, List.take_nil, List.drop_zero, List.drop_succ_cons, List.drop_nil, List.nil_append, List.cons_append, List.append_nil, List.map_cons, List.map_nil, List.replicate_succ, List.replicate_zero, List.flatten_cons, List.flatten_nil, Nat.zero_add, Nat.reduceAdd, chunk]; rfl) | rfl)))
        )
      · have hdl : l.drop i = l[i] :: l.drop (i + 1) := drop_cons (by omega)
        rw [hdl] at hout0
        have hk9' : k9 < n' ∧ S.n ≤ k9 ∧ k3 < k9 := by
          rcases hk9 with ⟨_, h5⟩ | h5
          · omega
          · have := htk _ h5; omega
        have hlen' : ((out ++ [l[i]]).map Hf.pv).length = (out.map Hf.pv).length + 1 := by simp
        have heq : out.map Hf.pv ++ [l[i].pv] = (out ++ [l[i]]).map Hf.pv := by simp [Hf.pv]
        refine q_loop_normal ⟨i + 1, n', some k9, true, out ++ [l[i]]⟩ ⟨by simp only; omega, by simp only; omega, by simp only [List.length_append, List.length_cons, List.length_nil] at *; (first | omega | (simp at hol ⊢; omega)), ?_, by simp, by simp, ?_⟩ (by simp only; omega) ?_
        · simp only [if_true] at hout0 ⊢; rw [hout0]; simp
        · intro k hk
          cases hk
          rcases hk9 with ⟨_, h5⟩ | h5
          · exact ⟨by omega, by simp only; omega, by simp⟩
          · have := htk _ h5; exact ⟨by omega, by simp only; omega, by simp⟩
        · dsimp only
          refine wk_mk hwf (by omega) (by omega) (by first | trivial | (simp only [keysP, and_true]; omega) | (repeat' (first | exact trivial | refine ⟨by omega, ?_⟩ | refine keys_vecB (fun k hk => by have := htk k hk; omega) ?_))) (blks_vecB (fun k hk => by cases hk; exact ⟨by rw [hlen']; exact get_same, by omega⟩) ⟨⟨(by (repeat (refine get_other (by omega) ?_)); exact get_vecB_out (fun k' hk' => by have := htk k' hk'; omega) get_same), by omega, trivial, trivial, trivial, trivial, trivial⟩, trivial⟩) ?_
          simp only [fitsP]
          exact ⟨.same trivial, wkV_ptr (by omega), wkV_out_eq heq (by omega), .same trivial, wkV_int (by omega), trivial⟩
      · have hdl : l.drop i = [] := List.drop_eq_nil_of_le (by omega)
        rw [hdl] at hout0
        simp only [if_true, List.append_nil] at hout0
        refine q_end_ret hwf (res_out rfl) ?_ (by first | trivial | (simp only [keysP, and_true]; omega) | (repeat' (first | exact trivial | refine ⟨by omega, ?_⟩ | refine keys_vecB (fun k hk => by have := htk k hk; omega) ?_))) (by omega)
        rw [hout0]
        refine wkV_out (fun h0 => ?_) (fun k hk => ?_)
        · rw [htk0 h0]; rfl
        · have := (htk k hk).2.2
          intro e
          exact this (List.map_eq_nil_iff.1 e)
end Go.Proofs.Ytakjakmhecfmiaa

