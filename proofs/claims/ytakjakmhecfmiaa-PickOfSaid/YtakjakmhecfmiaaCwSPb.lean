/- CONTRACTS: rows of halves; the document's test that as many come as go. -/
import Derived.Test.YtakjakmhecfmiaaCwSPa
set_option linter.unusedVariables false
set_option linter.unusedSimpArgs false
set_option maxHeartbeats 8000000
set_option maxRecDepth 20000
namespace Go.Proofs.Ytakjakmhecfmiaa
open Go.Cw
attribute [local irreducible] aops awp seqQ blockQ seqC loopQ endQ getB outV vecB

structure VG where
  i : Nat
  n : Nat
  tk : Option Nat

theorem rows_len {α : Type} {pv : α → List PV} {n : Nat} (hw : ∀ a, (pv a).length = n) (l : List α) : ∀ e ∈ l.map pv, e.length = n := by
  intro e he
  obtain ⟨z, _, rfl⟩ := List.mem_map.1 he
  exact hw z

theorem wkV_out0 {n : Nat} : wkV n (.sl true [] .full) (outV [] none) := by unfold outV; exact .same trivial
theorem wkV_out_eq {xs ys : List (List PV)} {k n : Nat} (h : xs = ys) (hk : k < n) : wkV n (outV xs (some k)) (outV ys (some k)) := by subst h; exact .same (by unfold outV; exact hk)
theorem specP13 (S : St) (nl : Bool) (l : List Hf) (hl : l.length ≤ 1048576) : ASpec Try.prog 13 [.p (.sl nl (l.map Hf.pv))] S (slOf (l.map Hf.pv)) S := by
  refine q_fun hmix cP13 rfl (Nat.le_of_ble_eq_true rfl) fun hwf hu => ?_
  repeat' (first
    | refine q_seq ?_
    | (refine q_reg fun n' hn' => ?_; simp only [List.length_cons, List.length_nil, Nat.zero_add, Nat.reduceAdd] at hn')
    | refine q_mov_p rfl ?_
    | refine q_mov_agg rfl ?_
    | refine q_lss rfl rfl (fun h => ?_) (fun h => ?_)
    | refine q_nil ?_
    | refine q_normal ?_
    | refine q_cond_t rfl ?_
    | refine q_cond_f rfl ?_
    | refine q_block ?_
    | refine q_exit ?_
    | refine q_ret ?_
    | refine q_skip ?_
    | refine q_seq_exit ?_
    | refine q_loop_exit ?_
    | refine q_loop_ret ?_
    | refine q_seq_ret ?_
    | refine q_block_normal ?_
    | refine q_block_ret ?_
    | refine q_block_hit ?_
    | refine q_block_miss rfl ?_
    | refine q_add rfl rfl (wrap64 (by omega)) ?_
    | (refine q_alloc fun k hk => ?_)
    | refine q_fadr rfl rfl ?_
    | refine q_fadr_ref rfl rfl ?_
    | refine q_mov_ptr rfl ?_
    | refine q_mov_ref rfl ?_
    | refine q_mov_sl rfl ?_
    | refine q_mov_fn rfl ?_
    | refine q_loadA_ref rfl (Nat.le_of_ble_eq_true rfl) (by first | (simp only [Hf.pv, List.take_zero, List.take_succ_cons, List.take_nil, List.drop_zero, List.drop_succ_cons, List.drop_nil, List.nil_append, List.cons_append, List.append_nil, List.map_cons, List.map_nil, List.replicate_succ, List.replicate_zero, List.flatten_cons, List.flatten_nil, Nat.zero_add, Nat.reduceAdd, chunk]; rfl) | rfl) ?_
    | refine q_loadA rfl (by repeat (first | exact get_same | refine get_other (by omega) ?_)) (Nat.le_of_ble_eq_true rfl) (by first | (simp only [Hf.pv, List.take_zero, List.take_succ_cons, List.take_nil, List.drop_zero, List.drop_succ_cons, List.drop_nil, List.nil_append, List.cons_append, List.append_nil, List.map_cons, List.map_nil, List.replicate_succ, List.replicate_zero, List.flatten_cons, List.flatten_nil, Nat.zero_add, Nat.reduceAdd, chunk]; rfl) | rfl) ?_
    | refine q_store_agg rfl (by repeat (first | exact get_same | refine get_other (by omega) ?_)) rfl rfl (Nat.le_of_ble_eq_true rfl) (by first | (simp only [Hf.pv, List.take_zero, List.take_succ_cons, List.take_nil, List.drop_zero, List.drop_succ_cons, List.drop_nil, List.nil_append, List.cons_append, List.append_nil, List.map_cons, List.map_nil, List.replicate_succ, List.replicate_zero, List.flatten_cons, List.flatten_nil, Nat.zero_add, Nat.reduceAdd, chunk]; rfl) | rfl) ?_
    | refine q_store_p rfl (by repeat (first | exact get_same | refine get_other (by omega) ?_)) rfl (Nat.le_of_ble_eq_true rfl) (by first | (simp only [Hf.pv, List.take_zero, List.take_succ_cons, List.take_nil, List.drop_zero, List.drop_succ_cons, List.drop_nil, List.nil_append, List.cons_append, List.append_nil, List.map_cons, List.map_nil, List.replicate_succ, List.replicate_zero, List.flatten_cons, List.flatten_nil, Nat.zero_add, Nat.reduceAdd, chunk]; rfl) | rfl) ?_
    | refine q_store_sl rfl (by repeat (first | exact get_same | refine get_other (by omega) ?_)) rfl (Nat.le_of_ble_eq_true rfl) (by first | (simp only [Hf.pv, List.take_zero, List.take_succ_cons, List.take_nil, List.drop_zero, List.drop_succ_cons, List.drop_nil, List.nil_append, List.cons_append, List.append_nil, List.map_cons, List.map_nil, List.replicate_succ, List.replicate_zero, List.flatten_cons, List.flatten_nil, Nat.zero_add, Nat.reduceAdd, chunk]; rfl) | rfl) ?_
    | refine q_store_fn rfl (by repeat (first | exact get_same | refine get_other (by omega) ?_)) rfl (Nat.le_of_ble_eq_true rfl) (by first | (simp only [Hf.pv, List.take_zero, List.take_succ_cons, List.take_nil, List.drop_zero, List.drop_succ_cons, List.drop_nil, List.nil_append, List.cons_append, List.append_nil, List.map_cons, List.map_nil, List.replicate_succ, List.replicate_zero, List.flatten_cons, List.flatten_nil, Nat.zero_add, Nat.reduceAdd, chunk]; rfl) | rfl) ?_
    | refine q_lenS_map rfl ?_
    | refine q_lenS rfl ?_
    | refine q_iadrS_nat rfl rfl (get_map (by omega)) rfl ?_
    | (apply q_build; (focus (repeat' (first | exact fill_nil | (apply fill_p rfl (Nat.le_of_ble_eq_true rfl); (focus (first | (simp only [Hf.pv, List.take_zero, List.take_succ_cons, List.take_nil, List.drop_zero, List.drop_succ_cons, List.drop_nil, List.nil_append, List.cons_append, List.append_nil, List.map_cons, List.map_nil, List.replicate_succ, List.replicate_zero, List.flatten_cons, List.flatten_nil, Nat.zero_add, Nat.reduceAdd, chunk]; rfl) | rfl))) | (apply fill_agg; (focus rfl); (focus rfl); (focus exact Nat.le_of_ble_eq_true rfl); (focus (first | (simp only [Hf.pv, List.take_zero, List.take_succ_cons, List.take_nil, List.drop_zero, List.drop_succ_cons, List.drop_nil, List.nil_append, List.cons_append, List.append_nil, List.map_cons, List.map_nil, List.replicate_succ, List.replicate_zero, List.flatten_cons, List.flatten_nil, Nat.zero_add, Nat.reduceAdd, chunk]; rfl) | rfl))) | (apply fill_sl rfl (Nat.le_of_ble_eq_true rfl); (focus (first | (simp only [Hf.pv, List.take_zero, List.take_succ_cons, List.take_nil, List.drop_zero, List.drop_succ_cons, List.drop_nil, List.nil_append, List.cons_append, List.append_nil, List.map_cons, List.map_nil, List.replicate_succ, List.replicate_zero, List.flatten_cons, List.flatten_nil, Nat.zero_add, Nat.reduceAdd, chunk]; rfl) | rfl))) | (apply fill_fn rfl (Nat.le_of_ble_eq_true rfl); (focus (first | (simp only [Hf.pv, List.take_zero, List.take_succ_cons, List.take_nil, List.drop_zero, List.drop_succ_cons, List.drop_nil, List.nil_append, List.cons_append, List.append_nil, List.map_cons, List.map_nil, List.replicate_succ, List.replicate_zero, List.flatten_cons, List.flatten_nil, Nat.zero_add, Nat.reduceAdd, chunk]; rfl) | rfl))) | (apply fill_ptr rfl (Nat.le_of_ble_eq_true rfl); (focus (first | (simp only [Hf.pv, List.take_zero, List.take_succ_cons, List.take_nil, List.drop_zero, List.drop_succ_cons, List.drop_nil, List.nil_append, List.cons_append, List.append_nil, List.map_cons, List.map_nil, List.replicate_succ, List.replicate_zero, List.flatten_cons, List.flatten_nil, Nat.zero_add, Nat.reduceAdd, chunk]; rfl) | rfl)))))))
    | refine q_mov_out rfl ?_
    | (apply q_bslice; (focus (repeat' (first | exact fill_nil | (apply fill_p rfl (Nat.le_of_ble_eq_true rfl); (focus (first | (simp only [Hf.pv, List.take_zero, List.take_succ_cons, List.take_nil, List.drop_zero, List.drop_succ_cons, List.drop_nil, List.nil_append, List.cons_append, List.append_nil, List.map_cons, List.map_nil, List.replicate_succ, List.replicate_zero, List.flatten_cons, List.flatten_nil, Nat.zero_add, Nat.reduceAdd, chunk]; rfl) | rfl))) | (apply fill_agg; (focus rfl); (focus rfl); (focus exact Nat.le_of_ble_eq_true rfl); (focus (first | (simp only [Hf.pv, List.take_zero, List.take_succ_cons, List.take_nil, List.drop_zero, List.drop_succ_cons, List.drop_nil, List.nil_append, List.cons_append, List.append_nil, List.map_cons, List.map_nil, List.replicate_succ, List.replicate_zero, List.flatten_cons, List.flatten_nil, Nat.zero_add, Nat.reduceAdd, chunk]; rfl) | rfl))) | (apply fill_sl rfl (Nat.le_of_ble_eq_true rfl); (focus (first | (simp only [Hf.pv, List.take_zero, List.take_succ_cons, List.take_nil, List.drop_zero, List.drop_succ_cons, List.drop_nil, List.nil_append, List.cons_append, List.append_nil, List.map_cons, List.map_nil, List.replicate_succ, List.replicate_zero, List.flatten_cons, List.flatten_nil, Nat.zero_add, Nat.reduceAdd, chunk]; rfl) | rfl))) | (apply fill_fn rfl (Nat.le_of_ble_eq_true rfl); (focus (first | (simp only [Hf.pv, List.take_zero, List.take_succ_cons, List.take_nil, List.drop_zero, List.drop_succ_cons, List.drop_nil, List.nil_append, List.cons_append, List.append_nil, List.map_cons, List.map_nil, List.replicate_succ, List.replicate_zero, List.flatten_cons, List.flatten_nil, Nat.zero_add, Nat.reduceAdd, chunk]; rfl) | rfl))) | (apply fill_ptr rfl (Nat.le_of_ble_eq_true rfl); (focus (first | (simp only [Hf.pv, List.take_zero, List.take_succ_cons, List.take_nil, List.drop_zero, List.drop_succ_cons, List.drop_nil, List.nil_append, List.cons_append, List.append_nil, List.map_cons, List.map_nil, List.replicate_succ, List.replicate_zero, List.flatten_cons, List.flatten_nil, Nat.zero_add, Nat.reduceAdd, chunk]; rfl) | rfl)))))); (focus rfl); (focus (first | (simp only [Hf.pv, List.take_zero, List.take_succ_cons, List.take_nil, List.drop_zero, List.drop_succ_cons, List.drop_nil, List.nil_append, List.cons_append, List.append_nil, List.map_cons, List.map_nil, List.replicate_succ, List.replicate_zero, List.flatten_cons, List.flatten_nil, Nat.zero_add, Nat.reduceAdd, chunk]; rfl) | rfl)))
    )
  refine q_loop (γ := VG) (fun g => [(3, outV ((l.take g.i).map Hf.pv) g.tk), (6, .p (.sl nl (l.map Hf.pv))), (7, vi (l.length : Nat)), (8, vi g.i)]) (fun g => ST S g.n (vecB g.tk ((l.take g.i).map Hf.pv).length 4 []))
    (fun g => g.i ≤ l.length ∧ n' ≤ g.n ∧ (g.tk = none → g.i = 0) ∧ ∀ k, g.tk = some k → n' ≤ k ∧ k < g.n ∧ 0 < g.i) (fun g => l.length - g.i) ⟨0, n', none⟩ (by simp) ?_ ?_
  · exact wk_mk hwf (by simp only; omega) (by simp) (by first | trivial | (simp only [keysP, and_true]; omega) | (repeat' (first | exact trivial | refine ⟨by omega, ?_⟩ | exact keys_vecB (fun k hk => by have := htk k hk; omega) trivial))) (blks_vecB (fun k hk => by cases hk) trivial) (by simp only [fitsP]; repeat' (first | exact trivial | refine ⟨?_, ?_⟩ | exact .same trivial | exact wkV_out0 | exact wkV_out_eq hout (by omega) | exact wkV_ptr (by omega) | exact wkV_mapv (by omega) | exact .same (under_mono (by omega) hu.1) | exact .same (under_mono (by omega) hu.2.1) | exact .same (under_mono (by omega) hu.2.2.1) | exact wkV_int (by omega) | exact wkV_int (by simp) | exact .no _ _ _))
  · rintro ⟨i, n0, tk⟩ ⟨hi, hn0, htk0, htk⟩
    dsimp only at *
    have hln : ((l.take i).map Hf.pv).length ≤ 1048576 := by rw [List.length_map, List.length_take]; omega
    repeat' (first
      | (refine q_append_out (tk := tk) rfl rfl (rows_len (pv := Hf.pv) (fun _ => rfl) _) rfl (by omega) (by omega) (fun k hk => by have := htk k hk; (repeat (refine get_other (by omega) ?_)); exact get_vecB_self k hk) (fun k9 hk9 => ?_))
      | refine q_seq ?_
      | (refine q_reg fun n' hn' => ?_; simp only [List.length_cons, List.length_nil, Nat.zero_add, Nat.reduceAdd] at hn')
      | refine q_mov_p rfl ?_
      | refine q_mov_agg rfl ?_
      | refine q_lss rfl rfl (fun h => ?_) (fun h => ?_)
      | refine q_nil ?_
      | refine q_normal ?_
      | refine q_cond_t rfl ?_
      | refine q_cond_f rfl ?_
      | refine q_block ?_
      | refine q_exit ?_
      | refine q_ret ?_
      | refine q_skip ?_
      | refine q_seq_exit ?_
      | refine q_loop_exit ?_
      | refine q_loop_ret ?_
      | refine q_seq_ret ?_
      | refine q_block_normal ?_
      | refine q_block_ret ?_
      | refine q_block_hit ?_
      | refine q_block_miss rfl ?_
      | refine q_add rfl rfl (wrap64 (by omega)) ?_
      | (refine q_alloc fun k hk => ?_)
      | refine q_fadr rfl rfl ?_
      | refine q_fadr_ref rfl rfl ?_
      | refine q_mov_ptr rfl ?_
      | refine q_mov_ref rfl ?_
      | refine q_mov_sl rfl ?_
      | refine q_mov_fn rfl ?_
      | refine q_loadA_ref rfl (Nat.le_of_ble_eq_true rfl) (by first | (simp only [Hf.pv, List.take_zero, List.take_succ_cons, List.take_nil, List.drop_zero, List.drop_succ_cons, List.drop_nil, List.nil_append, List.cons_append, List.append_nil, List.map_cons, List.map_nil, List.replicate_succ, List.replicate_zero, List.flatten_cons, List.flatten_nil, Nat.zero_add, Nat.reduceAdd, chunk]; rfl) | rfl) ?_
      | refine q_loadA rfl (by repeat (first | exact get_same | refine get_other (by omega) ?_)) (Nat.le_of_ble_eq_true rfl) (by first | (simp only [Hf.pv, List.take_zero, List.take_succ_cons, List.take_nil, List.drop_zero, List.drop_succ_cons, List.drop_nil, List.nil_append, List.cons_append, List.append_nil, List.map_cons, List.map_nil, List.replicate_succ, List.replicate_zero, List.flatten_cons, List.flatten_nil, Nat.zero_add, Nat.reduceAdd, chunk]; rfl) | rfl) ?_
      | refine q_store_agg rfl (by repeat (first | exact get_same | refine get_other (by omega) ?_)) rfl rfl (Nat.le_of_ble_eq_true rfl) (by first | (simp only [Hf.pv, List.take_zero, List.take_succ_cons, List.take_nil, List.drop_zero, List.drop_succ_cons, List.drop_nil, List.nil_append, List.cons_append, List.append_nil, List.map_cons, List.map_nil, List.replicate_succ, List.replicate_zero, List.flatten_cons, List.flatten_nil, Nat.zero_add, Nat.reduceAdd, chunk]; rfl) | rfl) ?_
      | refine q_store_p rfl (by repeat (first | exact get_same | refine get_other (by omega) ?_)) rfl (Nat.le_of_ble_eq_true rfl) (by first | (simp only [Hf.pv, List.take_zero, List.take_succ_cons, List.take_nil, List.drop_zero, List.drop_succ_cons, List.drop_nil, List.nil_append, List.cons_append, List.append_nil, List.map_cons, List.map_nil, List.replicate_succ, List.replicate_zero, List.flatten_cons, List.flatten_nil, Nat.zero_add, Nat.reduceAdd, chunk]; rfl) | rfl) ?_
      | refine q_store_sl rfl (by repeat (first | exact get_same | refine get_other (by omega) ?_)) rfl (Nat.le_of_ble_eq_true rfl) (by first | (simp only [Hf.pv, List.take_zero, List.take_succ_cons, List.take_nil, List.drop_zero, List.drop_succ_cons, List.drop_nil, List.nil_append, List.cons_append, List.append_nil, List.map_cons, List.map_nil, List.replicate_succ, List.replicate_zero, List.flatten_cons, List.flatten_nil, Nat.zero_add, Nat.reduceAdd, chunk]; rfl) | rfl) ?_
      | refine q_store_fn rfl (by repeat (first | exact get_same | refine get_other (by omega) ?_)) rfl (Nat.le_of_ble_eq_true rfl) (by first | (simp only [Hf.pv, List.take_zero, List.take_succ_cons, List.take_nil, List.drop_zero, List.drop_succ_cons, List.drop_nil, List.nil_append, List.cons_append, List.append_nil, List.map_cons, List.map_nil, List.replicate_succ, List.replicate_zero, List.flatten_cons, List.flatten_nil, Nat.zero_add, Nat.reduceAdd, chunk]; rfl) | rfl) ?_
      | refine q_lenS_map rfl ?_
      | refine q_lenS rfl ?_
      | refine q_iadrS_nat rfl rfl (get_map (by omega)) rfl ?_
      | (apply q_build; (focus (repeat' (first | exact fill_nil | (apply fill_p rfl (Nat.le_of_ble_eq_true rfl); (focus (first | (simp only [Hf.pv, List.take_zero, List.take_succ_cons, List.take_nil, List.drop_zero, List.drop_succ_cons, List.drop_nil, List.nil_append, List.cons_append, List.append_nil, List.map_cons, List.map_nil, List.replicate_succ, List.replicate_zero, List.flatten_cons, List.flatten_nil, Nat.zero_add, Nat.reduceAdd, chunk]; rfl) | rfl))) | (apply fill_agg; (focus rfl); (focus rfl); (focus exact Nat.le_of_ble_eq_true rfl); (focus (first | (simp only [Hf.pv, List.take_zero, List.take_succ_cons, List.take_nil, List.drop_zero, List.drop_succ_cons, List.drop_nil, List.nil_append, List.cons_append, List.append_nil, List.map_cons, List.map_nil, List.replicate_succ, List.replicate_zero, List.flatten_cons, List.flatten_nil, Nat.zero_add, Nat.reduceAdd, chunk]; rfl) | rfl))) | (apply fill_sl rfl (Nat.le_of_ble_eq_true rfl); (focus (first | (simp only [Hf.pv, List.take_zero, List.take_succ_cons, List.take_nil, List.drop_zero, List.drop_succ_cons, List.drop_nil, List.nil_append, List.cons_append, List.append_nil, List.map_cons, List.map_nil, List.replicate_succ, List.replicate_zero, List.flatten_cons, List.flatten_nil, Nat.zero_add, Nat.reduceAdd, chunk]; rfl) | rfl))) | (apply fill_fn rfl (Nat.le_of_ble_eq_true rfl); (focus (first | (simp only [Hf.pv, List.take_zero, List.take_succ_cons, List.take_nil, List.drop_zero, List.drop_succ_cons, List.drop_nil, List.nil_append, List.cons_append, List.append_nil, List.map_cons, List.map_nil, List.replicate_succ, List.replicate_zero, List.flatten_cons, List.flatten_nil, Nat.zero_add, Nat.reduceAdd, chunk]; rfl) | rfl))) | (apply fill_ptr rfl (Nat.le_of_ble_eq_true rfl); (focus (first | (simp only [Hf.pv, List.take_zero, List.take_succ_cons, List.take_nil, List.drop_zero, List.drop_succ_cons, List.drop_nil, List.nil_append, List.cons_append, List.append_nil, List.map_cons, List.map_nil, List.replicate_succ, List.replicate_zero, List.flatten_cons, List.flatten_nil, Nat.zero_add, Nat.reduceAdd, chunk]; rfl) | rfl)))))))
      | refine q_mov_out rfl ?_
      | (apply q_bslice; (focus (repeat' (first | exact fill_nil | (apply fill_p rfl (Nat.le_of_ble_eq_true rfl); (focus (first | (simp only [Hf.pv, List.take_zero, List.take_succ_cons, List.take_nil, List.drop_zero, List.drop_succ_cons, List.drop_nil, List.nil_append, List.cons_append, List.append_nil, List.map_cons, List.map_nil, List.replicate_succ, List.replicate_zero, List.flatten_cons, List.flatten_nil, Nat.zero_add, Nat.reduceAdd, chunk]; rfl) | rfl))) | (apply fill_agg; (focus rfl); (focus rfl); (focus exact Nat.le_of_ble_eq_true rfl); (focus (first | (simp only [Hf.pv, List.take_zero, List.take_succ_cons, List.take_nil, List.drop_zero, List.drop_succ_cons, List.drop_nil, List.nil_append, List.cons_append, List.append_nil, List.map_cons, List.map_nil, List.replicate_succ, List.replicate_zero, List.flatten_cons, List.flatten_nil, Nat.zero_add, Nat.reduceAdd, chunk]; rfl) | rfl))) | (apply fill_sl rfl (Nat.le_of_ble_eq_true rfl); (focus (first | (simp only [Hf.pv, List.take_zero, List.take_succ_cons, List.take_nil, List.drop_zero, List.drop_succ_cons, List.drop_nil, List.nil_append, List.cons_append, List.append_nil, List.map_cons, List.map_nil, List.replicate_succ, List.replicate_zero, List.flatten_cons, List.flatten_nil, Nat.zero_add, Nat.reduceAdd, chunk]; rfl) | rfl))) | (apply fill_fn rfl (Nat.le_of_ble_eq_true rfl); (focus (first | (simp only [Hf.pv, List.take_zero, List.take_succ_cons, List.take_nil, List.drop_zero, List.drop_succ_cons, List.drop_nil, List.nil_append, List.cons_append, List.append_nil, List.map_cons, List.map_nil, List.replicate_succ, List.replicate_zero, List.flatten_cons, List.flatten_nil, Nat.zero_add, Nat.reduceAdd, chunk]; rfl) | rfl))) | (apply fill_ptr rfl (Nat.le_of_ble_eq_true rfl); (focus (first | (simp only [Hf.pv, List.take_zero, List.take_succ_cons, List.take_nil, List.drop_zero, List.drop_succ_cons, List.drop_nil, List.nil_append, List.cons_append, List.append_nil, List.map_cons, List.map_nil, List.replicate_succ, List.replicate_zero, List.flatten_cons, List.flatten_nil, Nat.zero_add, Nat.reduceAdd, chunk]; rfl) | rfl)))))); (focus rfl); (focus (first | (simp only [Hf.pv, List.take_zero, List.take_succ_cons, List.take_nil, List.drop_zero, List.drop_succ_cons, List.drop_nil, List.nil_append, List.cons_append, List.append_nil, List.map_cons, List.map_nil, List.replicate_succ, List.replicate_zero, List.flatten_cons, List.flatten_nil, Nat.zero_add, Nat.reduceAdd, chunk]; rfl) | rfl)))
      )
    · have hout : (l.take i).map Hf.pv ++ [l[i].pv] = (l.take (i + 1)).map Hf.pv := by rw [List.take_succ_eq_append_getElem (by omega), List.map_append]; rfl
      have hlen' : ((l.take (i + 1)).map Hf.pv).length = ((l.take i).map Hf.pv).length + 1 := by rw [← hout]; simp
      have hk9' : k9 < n' ∧ S.n ≤ k9 := by
        rcases hk9 with ⟨_, h5⟩ | h5
        · omega
        · have := htk _ h5; omega
      refine q_loop_normal ⟨i + 1, n', some k9⟩ ⟨by simp only; omega, by simp only; omega, by simp, ?_⟩ (by simp only; omega) (wk_mk hwf (by simp only; omega) (by simp) (by first | trivial | (simp only [keysP, and_true]; omega) | (repeat' (first | exact trivial | refine ⟨by omega, ?_⟩ | exact keys_vecB (fun k hk => by have := htk k hk; omega) trivial))) (blks_vecB (fun k hk => by cases hk; exact ⟨by rw [hlen']; exact get_same, hk9'.1⟩) trivial) (by simp only [fitsP]; repeat' (first | exact trivial | refine ⟨?_, ?_⟩ | exact .same trivial | exact wkV_out0 | exact wkV_out_eq hout (by omega) | exact wkV_ptr (by omega) | exact wkV_mapv (by omega) | exact .same (under_mono (by omega) hu.1) | exact .same (under_mono (by omega) hu.2.1) | exact .same (under_mono (by omega) hu.2.2.1) | exact wkV_int (by omega) | exact wkV_int (by simp) | exact .no _ _ _)))
      intro k hk
      cases hk
      rcases hk9 with ⟨_, h5⟩ | h5
      · simp only; omega
      · have := htk _ h5; simp only; omega
    · have hli : l.take i = l := List.take_of_length_le (by omega)
      refine q_end_ret hwf (res_out rfl) ?_ (by first | trivial | (simp only [keysP, and_true]; omega) | (repeat' (first | exact trivial | refine ⟨by omega, ?_⟩ | exact keys_vecB (fun k hk => by have := htk k hk; omega) trivial))) (by omega)
      show wkV S.n (outV ((l.take i).map Hf.pv) tk) _
      rw [hli]
      refine wkV_out (fun h0 => ?_) (fun k hk => ?_)
      · have := htk0 h0
        have : l = [] := List.eq_nil_of_length_eq_zero (by omega)
        rw [this]; rfl
      · have := htk k hk
        intro e
        have : l.length = 0 := by simpa using congrArg List.length e
        omega

theorem quo2 {k : Nat} (h : k < 4611686018427387904) : IntKind.i64.wrap ((k : Int).tdiv 2) = ((k / 2 : Nat) : Int) := by
  rw [show ((k : Int).tdiv 2) = ((k / 2 : Nat) : Int) from rfl]
  exact wrap64 (by omega)
theorem rem2 {k : Nat} : (k : Int).tmod 2 = ((k % 2 : Nat) : Int) := rfl
theorem eqk {a b c d : Int} : eqCells [some .i64, some .i64] [vi a, vi b] [vi c, vi d] = some (decide ([a, b] = [c, d])) := by
  by_cases h1 : a = c <;> by_cases h2 : b = d <;> simp [eqCells, h1, h2]

def keyAt (l : List Hf) (k : Nat) (h : k / 2 < l.length) : List Int := if k % 2 = 1 then l[k / 2].tk else l[k / 2].fk
theorem even_of {l : List Hf} (h : ∀ (k : Nat) (hk : k / 2 < l.length), balK (keyAt l k hk) l = 0) : evenL l = true := by
  rw [evenL, List.all_eq_true]
  intro x hx
  obtain ⟨i, hi, rfl⟩ := List.getElem_of_mem hx
  have h1 := h (2 * i) (by omega)
  have h2 := h (2 * i + 1) (by omega)
  simp only [keyAt, show 2 * i % 2 = 0 by omega, show (2 * i + 1) % 2 = 1 by omega, show 2 * i / 2 = i by omega, show (2 * i + 1) / 2 = i by omega, if_true] at h1 h2
  rw [if_neg (by omega)] at h1
  rw [h1, h2]; rfl
theorem odd_of {l : List Hf} {k : Nat} (hk : k / 2 < l.length) (h : balK (keyAt l k hk) l ≠ 0) : evenL l = false := by
  rw [evenL, List.all_eq_false]
  refine ⟨l[k / 2], List.getElem_mem hk, ?_⟩
  simp only [keyAt] at h
  split at h <;> simp [h]

theorem specP16 (S : St) (nl : Bool) (l : List Hf) (hl : l.length ≤ 1048576) : ASpec Try.prog 16 [.p (.sl nl (l.map Hf.pv))] S (vb (evenL l)) S := by
  refine q_fun hmix cP16 rfl (Nat.le_of_ble_eq_true rfl) fun hwf hu => ?_
  repeat' (first
    | refine q_seq ?_
    | (refine q_reg fun n' hn' => ?_; simp only [List.length_cons, List.length_nil, Nat.zero_add, Nat.reduceAdd] at hn')
    | refine q_mov_p rfl ?_
    | refine q_mov_agg rfl ?_
    | refine q_lss rfl rfl (fun h => ?_) (fun h => ?_)
    | refine q_eql rfl rfl (fun h => ?_) (fun h => ?_)
    | refine q_neq rfl rfl (fun h => ?_) (fun h => ?_)
    | refine q_nil_drawn trivial ?_
    | refine q_nil_drawn (sep1 rfl rfl (by omega) trivial) ?_
    | refine q_nil_drawn (sep1 rfl rfl (by omega) (sep1 rfl rfl (by omega) trivial)) ?_
    | refine q_nil ?_
    | refine q_normal ?_
    | refine q_cond_t rfl ?_
    | refine q_cond_f rfl ?_
    | refine q_block ?_
    | refine q_exit ?_
    | refine q_ret ?_
    | refine q_skip ?_
    | refine q_seq_exit ?_
    | refine q_loop_exit ?_
    | refine q_loop_ret ?_
    | refine q_seq_ret ?_
    | refine q_block_normal ?_
    | refine q_block_ret ?_
    | refine q_block_hit ?_
    | refine q_block_miss rfl ?_
    | refine q_add rfl rfl (wrap64 (by omega)) ?_
    | refine q_sub rfl rfl (wrap64 (by omega)) ?_
    | refine q_mul rfl rfl (wrap64 (by omega)) ?_
    | refine q_mul31 rfl rfl (by omega) (by omega) (fun hm1 hm2 => ?_)
    | (refine q_alloc fun k hk => ?_)
    | refine q_fadr rfl rfl ?_
    | refine q_fadr_ref rfl rfl ?_
    | refine q_mov_ptr rfl ?_
    | refine q_mov_ref rfl ?_
    | refine q_mov_sl rfl ?_
    | refine q_mov_fn rfl ?_
    | refine q_loadA_ref rfl (Nat.le_of_ble_eq_true rfl) (by first | (simp only [Hf.pv, List.take_zero, List.take_succ_cons, List.take_nil, List.drop_zero, List.drop_succ_cons, List.drop_nil, List.nil_append, List.cons_append, List.append_nil, List.map_cons, List.map_nil, List.replicate_succ, List.replicate_zero, List.flatten_cons, List.flatten_nil, Nat.zero_add, Nat.reduceAdd, chunk]; rfl) | rfl) ?_
    | refine q_loadA rfl (by repeat (first | exact get_same | refine get_other (by omega) ?_)) (Nat.le_of_ble_eq_true rfl) (by first | (simp only [Hf.pv, List.take_zero, List.take_succ_cons, List.take_nil, List.drop_zero, List.drop_succ_cons, List.drop_nil, List.nil_append, List.cons_append, List.append_nil, List.map_cons, List.map_nil, List.replicate_succ, List.replicate_zero, List.flatten_cons, List.flatten_nil, Nat.zero_add, Nat.reduceAdd, chunk]; rfl) | rfl) ?_
    | refine q_store_agg rfl (by repeat (first | exact get_same | refine get_other (by omega) ?_)) rfl rfl (Nat.le_of_ble_eq_true rfl) (by first | (simp only [Hf.pv, List.take_zero, List.take_succ_cons, List.take_nil, List.drop_zero, List.drop_succ_cons, List.drop_nil, List.nil_append, List.cons_append, List.append_nil, List.map_cons, List.map_nil, List.replicate_succ, List.replicate_zero, List.flatten_cons, List.flatten_nil, Nat.zero_add, Nat.reduceAdd, chunk]; rfl) | rfl) ?_
    | refine q_store_p rfl (by repeat (first | exact get_same | refine get_other (by omega) ?_)) rfl (Nat.le_of_ble_eq_true rfl) (by first | (simp only [Hf.pv, List.take_zero, List.take_succ_cons, List.take_nil, List.drop_zero, List.drop_succ_cons, List.drop_nil, List.nil_append, List.cons_append, List.append_nil, List.map_cons, List.map_nil, List.replicate_succ, List.replicate_zero, List.flatten_cons, List.flatten_nil, Nat.zero_add, Nat.reduceAdd, chunk]; rfl) | rfl) ?_
    | refine q_store_sl rfl (by repeat (first | exact get_same | refine get_other (by omega) ?_)) rfl (Nat.le_of_ble_eq_true rfl) (by first | (simp only [Hf.pv, List.take_zero, List.take_succ_cons, List.take_nil, List.drop_zero, List.drop_succ_cons, List.drop_nil, List.nil_append, List.cons_append, List.append_nil, List.map_cons, List.map_nil, List.replicate_succ, List.replicate_zero, List.flatten_cons, List.flatten_nil, Nat.zero_add, Nat.reduceAdd, chunk]; rfl) | rfl) ?_
    | refine q_store_fn rfl (by repeat (first | exact get_same | refine get_other (by omega) ?_)) rfl (Nat.le_of_ble_eq_true rfl) (by first | (simp only [Hf.pv, List.take_zero, List.take_succ_cons, List.take_nil, List.drop_zero, List.drop_succ_cons, List.drop_nil, List.nil_append, List.cons_append, List.append_nil, List.map_cons, List.map_nil, List.replicate_succ, List.replicate_zero, List.flatten_cons, List.flatten_nil, Nat.zero_add, Nat.reduceAdd, chunk]; rfl) | rfl) ?_
    | refine q_lenS_map rfl ?_
    | refine q_lenS rfl ?_
    | refine q_nil_drawn trivial ?_
    | (refine q_drawn fun n' hn' => ?_; simp only [List.length_cons, List.length_nil, Nat.zero_add, Nat.reduceAdd] at hn')
    | refine q_iadrS_nat rfl rfl (get_map (by omega)) rfl ?_
    | refine q_mov_out rfl ?_
    )
  refine q_loop (γ := Nat × Nat) (fun g => [(0, .p (.sl nl (l.map Hf.pv))), (3, vi g.1)]) (fun g => ST S g.2 []) (fun g => g.1 ≤ 2 * l.length ∧ n' ≤ g.2 ∧ ∀ (k : Nat) (hk : k / 2 < l.length), k < g.1 → balK (keyAt l k hk) l = 0) (fun g => 2 * l.length - g.1) (0, n') (by simp) ?_ ?_
  · exact wk_mk hwf (by simp only; omega) (by simp) (by first | trivial | (simp only [keysP, and_true]; omega) | (repeat' (first | exact trivial | refine ⟨by omega, ?_⟩ | exact keys_vecB (fun k hk => by have := htk k hk; omega) trivial))) trivial (by simp only [fitsP]; repeat' (first | exact trivial | refine ⟨?_, ?_⟩ | exact .same trivial | exact wkV_out0 | exact wkV_out_eq hout (by omega) | exact wkV_ptr (by omega) | exact wkV_mapv (by omega) | exact .same (under_mono (by omega) hu.1) | exact .same (under_mono (by omega) hu.2.1) | exact .same (under_mono (by omega) hu.2.2.1) | exact wkV_int (by omega) | exact wkV_int (by simp) | exact .no _ _ _))
  · rintro ⟨c, n0⟩ ⟨hc, hn0, hz⟩
    dsimp only at *
    repeat' (first
      | refine q_quo rfl rfl (by decide) (quo2 (by omega)) ?_
      | refine q_rem rfl rfl (by decide) rem2 ?_
      | refine q_iadrS_nat (i := c / 2) rfl rfl (get_map (by omega)) rfl ?_
      | (refine q_alloc fun k4 hk4 => ?_)
      | refine q_seq ?_
      | (refine q_reg fun n' hn' => ?_; simp only [List.length_cons, List.length_nil, Nat.zero_add, Nat.reduceAdd] at hn')
      | refine q_mov_p rfl ?_
      | refine q_mov_agg rfl ?_
      | refine q_lss rfl rfl (fun h => ?_) (fun h => ?_)
      | refine q_eql rfl rfl (fun h => ?_) (fun h => ?_)
      | refine q_neq rfl rfl (fun h => ?_) (fun h => ?_)
      | refine q_nil_drawn trivial ?_
      | refine q_nil_drawn (sep1 rfl rfl (by omega) trivial) ?_
      | refine q_nil_drawn (sep1 rfl rfl (by omega) (sep1 rfl rfl (by omega) trivial)) ?_
      | refine q_nil ?_
      | refine q_normal ?_
      | refine q_cond_t rfl ?_
      | refine q_cond_f rfl ?_
      | refine q_block ?_
      | refine q_exit ?_
      | refine q_ret ?_
      | refine q_skip ?_
      | refine q_seq_exit ?_
      | refine q_loop_exit ?_
      | refine q_loop_ret ?_
      | refine q_seq_ret ?_
      | refine q_block_normal ?_
      | refine q_block_ret ?_
      | refine q_block_hit ?_
      | refine q_block_miss rfl ?_
      | refine q_add rfl rfl (wrap64 (by omega)) ?_
      | refine q_sub rfl rfl (wrap64 (by omega)) ?_
      | refine q_mul rfl rfl (wrap64 (by omega)) ?_
      | refine q_mul31 rfl rfl (by omega) (by omega) (fun hm1 hm2 => ?_)
      | refine q_fadr rfl rfl ?_
      | refine q_fadr_ref rfl rfl ?_
      | refine q_mov_ptr rfl ?_
      | refine q_mov_ref rfl ?_
      | refine q_mov_sl rfl ?_
      | refine q_mov_fn rfl ?_
      | refine q_loadA_ref rfl (Nat.le_of_ble_eq_true rfl) (by first | (simp only [Hf.pv, List.take_zero, List.take_succ_cons, List.take_nil, List.drop_zero, List.drop_succ_cons, List.drop_nil, List.nil_append, List.cons_append, List.append_nil, List.map_cons, List.map_nil, List.replicate_succ, List.replicate_zero, List.flatten_cons, List.flatten_nil, Nat.zero_add, Nat.reduceAdd, chunk]; rfl) | rfl) ?_
      | refine q_loadA rfl (by repeat (first | exact get_same | refine get_other (by omega) ?_)) (Nat.le_of_ble_eq_true rfl) (by first | (simp only [Hf.pv, List.take_zero, List.take_succ_cons, List.take_nil, List.drop_zero, List.drop_succ_cons, List.drop_nil, List.nil_append, List.cons_append, List.append_nil, List.map_cons, List.map_nil, List.replicate_succ, List.replicate_zero, List.flatten_cons, List.flatten_nil, Nat.zero_add, Nat.reduceAdd, chunk]; rfl) | rfl) ?_
      | refine q_store_agg rfl (by repeat (first | exact get_same | refine get_other (by omega) ?_)) rfl rfl (Nat.le_of_ble_eq_true rfl) (by first | (simp only [Hf.pv, List.take_zero, List.take_succ_cons, List.take_nil, List.drop_zero, List.drop_succ_cons, List.drop_nil, List.nil_append, List.cons_append, List.append_nil, List.map_cons, List.map_nil, List.replicate_succ, List.replicate_zero, List.flatten_cons, List.flatten_nil, Nat.zero_add, Nat.reduceAdd, chunk]; rfl) | rfl) ?_
      | refine q_store_p rfl (by repeat (first | exact get_same | refine get_other (by omega) ?_)) rfl (Nat.le_of_ble_eq_true rfl) (by first | (simp only [Hf.pv, List.take_zero, List.take_succ_cons, List.take_nil, List.drop_zero, List.drop_succ_cons, List.drop_nil, List.nil_append, List.cons_append, List.append_nil, List.map_cons, List.map_nil, List.replicate_succ, List.replicate_zero, List.flatten_cons, List.flatten_nil, Nat.zero_add, Nat.reduceAdd, chunk]; rfl) | rfl) ?_
      | refine q_store_sl rfl (by repeat (first | exact get_same | refine get_other (by omega) ?_)) rfl (Nat.le_of_ble_eq_true rfl) (by first | (simp only [Hf.pv, List.take_zero, List.take_succ_cons, List.take_nil, List.drop_zero, List.drop_succ_cons, List.drop_nil, List.nil_append, List.cons_append, List.append_nil, List.map_cons, List.map_nil, List.replicate_succ, List.replicate_zero, List.flatten_cons, List.flatten_nil, Nat.zero_add, Nat.reduceAdd, chunk]; rfl) | rfl) ?_
      | refine q_store_fn rfl (by repeat (first | exact get_same | refine get_other (by omega) ?_)) rfl (Nat.le_of_ble_eq_true rfl) (by first | (simp only [Hf.pv, List.take_zero, List.take_succ_cons, List.take_nil, List.drop_zero, List.drop_succ_cons, List.drop_nil, List.nil_append, List.cons_append, List.append_nil, List.map_cons, List.map_nil, List.replicate_succ, List.replicate_zero, List.flatten_cons, List.flatten_nil, Nat.zero_add, Nat.reduceAdd, chunk]; rfl) | rfl) ?_
      | refine q_lenS_map rfl ?_
      | refine q_lenS rfl ?_
      | refine q_nil_drawn trivial ?_
      | (refine q_drawn fun n' hn' => ?_; simp only [List.length_cons, List.length_nil, Nat.zero_add, Nat.reduceAdd] at hn')
      | refine q_iadrS_nat rfl rfl (get_map (by omega)) rfl ?_
      | refine q_mov_out rfl ?_
      )
    · have hq : keyAt l c (by omega) = (l[c / 2]'(by omega)).tk := by simp only [keyAt]; rw [if_pos (by omega)]
      refine q_loop (γ := Nat × Int) (fun g => [(0, .p (.sl nl (l.map Hf.pv))), (3, vi c), (4, .ptr k4 0), (5, vi g.2), (6, vi g.1)]) (fun _ => ST S n' [(k4, .cells [vi (l[c / 2]'(by omega)).tx, vi (l[c / 2]'(by omega)).ty])]) (fun g => g.1 ≤ l.length ∧ g.2 = balK (l[c / 2]'(by omega)).tk (l.take g.1)) (fun g => l.length - g.1) (0, 0) (by exact ⟨by simp, rfl⟩) ?_ ?_
      · exact wk_mk hwf (by omega) (by omega) (by first | trivial | (simp only [keysP, and_true]; omega) | (repeat' (first | exact trivial | refine ⟨by omega, ?_⟩ | exact keys_vecB (fun k hk => by have := htk k hk; omega) trivial))) (by repeat' (first | exact trivial | refine ⟨?_, ?_⟩ | exact get_same | omega | refine get_other (by omega) ?_ | exact underL_mono (by omega) hu1)) (by simp only [fitsP]; repeat' (first | exact trivial | refine ⟨?_, ?_⟩ | exact .same trivial | exact wkV_out0 | exact wkV_out_eq hout (by omega) | exact wkV_ptr (by omega) | exact wkV_mapv (by omega) | exact .same (under_mono (by omega) hu.1) | exact .same (under_mono (by omega) hu.2.1) | exact .same (under_mono (by omega) hu.2.2.1) | exact wkV_int (by omega) | exact wkV_int (by simp) | exact .no _ _ _))
      · rintro ⟨i, n⟩ ⟨hi, hn⟩
        dsimp only at *
        have hbd := balK_bd (l[c / 2]'(by omega)).tk (l.take i)
        have hbl : ((l.take i).length : Int) ≤ i := by simp; omega
        repeat' (first
          | refine q_iadrS_nat (i := i) rfl rfl (get_map (by omega)) rfl ?_
          | refine q_eqA rfl rfl eqk (fun he => ?_) (fun he => ?_)
          | refine q_seq ?_
          | (refine q_reg fun n' hn' => ?_; simp only [List.length_cons, List.length_nil, Nat.zero_add, Nat.reduceAdd] at hn')
          | refine q_mov_p rfl ?_
          | refine q_mov_agg rfl ?_
          | refine q_lss rfl rfl (fun h => ?_) (fun h => ?_)
          | refine q_eql rfl rfl (fun h => ?_) (fun h => ?_)
          | refine q_neq rfl rfl (fun h => ?_) (fun h => ?_)
          | refine q_nil_drawn trivial ?_
          | refine q_nil_drawn (sep1 rfl rfl (by omega) trivial) ?_
          | refine q_nil_drawn (sep1 rfl rfl (by omega) (sep1 rfl rfl (by omega) trivial)) ?_
          | refine q_nil ?_
          | refine q_normal ?_
          | refine q_cond_t rfl ?_
          | refine q_cond_f rfl ?_
          | refine q_block ?_
          | refine q_exit ?_
          | refine q_ret ?_
          | refine q_skip ?_
          | refine q_seq_exit ?_
          | refine q_loop_exit ?_
          | refine q_loop_ret ?_
          | refine q_seq_ret ?_
          | refine q_block_normal ?_
          | refine q_block_ret ?_
          | refine q_block_hit ?_
          | refine q_block_miss rfl ?_
          | refine q_add rfl rfl (wrap64 (by omega)) ?_
          | refine q_sub rfl rfl (wrap64 (by omega)) ?_
          | refine q_mul rfl rfl (wrap64 (by omega)) ?_
          | refine q_mul31 rfl rfl (by omega) (by omega) (fun hm1 hm2 => ?_)
          | (refine q_alloc fun k hk => ?_)
          | refine q_fadr rfl rfl ?_
          | refine q_fadr_ref rfl rfl ?_
          | refine q_mov_ptr rfl ?_
          | refine q_mov_ref rfl ?_
          | refine q_mov_sl rfl ?_
          | refine q_mov_fn rfl ?_
          | refine q_loadA_ref rfl (Nat.le_of_ble_eq_true rfl) (by first | (simp only [Hf.pv, List.take_zero, List.take_succ_cons, List.take_nil, List.drop_zero, List.drop_succ_cons, List.drop_nil, List.nil_append, List.cons_append, List.append_nil, List.map_cons, List.map_nil, List.replicate_succ, List.replicate_zero, List.flatten_cons, List.flatten_nil, Nat.zero_add, Nat.reduceAdd, chunk]; rfl) | rfl) ?_
          | refine q_loadA rfl (by repeat (first | exact get_same | refine get_other (by omega) ?_)) (Nat.le_of_ble_eq_true rfl) (by first | (simp only [Hf.pv, List.take_zero, List.take_succ_cons, List.take_nil, List.drop_zero, List.drop_succ_cons, List.drop_nil, List.nil_append, List.cons_append, List.append_nil, List.map_cons, List.map_nil, List.replicate_succ, List.replicate_zero, List.flatten_cons, List.flatten_nil, Nat.zero_add, Nat.reduceAdd, chunk]; rfl) | rfl) ?_
          | refine q_store_agg rfl (by repeat (first | exact get_same | refine get_other (by omega) ?_)) rfl rfl (Nat.le_of_ble_eq_true rfl) (by first | (simp only [Hf.pv, List.take_zero, List.take_succ_cons, List.take_nil, List.drop_zero, List.drop_succ_cons, List.drop_nil, List.nil_append, List.cons_append, List.append_nil, List.map_cons, List.map_nil, List.replicate_succ, List.replicate_zero, List.flatten_cons, List.flatten_nil, Nat.zero_add, Nat.reduceAdd, chunk]; rfl) | rfl) ?_
          | refine q_store_p rfl (by repeat (first | exact get_same | refine get_other (by omega) ?_)) rfl (Nat.le_of_ble_eq_true rfl) (by first | (simp only [Hf.pv, List.take_zero, List.take_succ_cons, List.take_nil, List.drop_zero, List.drop_succ_cons, List.drop_nil, List.nil_append, List.cons_append, List.append_nil, List.map_cons, List.map_nil, List.replicate_succ, List.replicate_zero, List.flatten_cons, List.flatten_nil, Nat.zero_add, Nat.reduceAdd, chunk]; rfl) | rfl) ?_
          | refine q_store_sl rfl (by repeat (first | exact get_same | refine get_other (by omega) ?_)) rfl (Nat.le_of_ble_eq_true rfl) (by first | (simp only [Hf.pv, List.take_zero, List.take_succ_cons, List.take_nil, List.drop_zero, List.drop_succ_cons, List.drop_nil, List.nil_append, List.cons_append, List.append_nil, List.map_cons, List.map_nil, List.replicate_succ, List.replicate_zero, List.flatten_cons, List.flatten_nil, Nat.zero_add, Nat.reduceAdd, chunk]; rfl) | rfl) ?_
          | refine q_store_fn rfl (by repeat (first | exact get_same | refine get_other (by omega) ?_)) rfl (Nat.le_of_ble_eq_true rfl) (by first | (simp only [Hf.pv, List.take_zero, List.take_succ_cons, List.take_nil, List.drop_zero, List.drop_succ_cons, List.drop_nil, List.nil_append, List.cons_append, List.append_nil, List.map_cons, List.map_nil, List.replicate_succ, List.replicate_zero, List.flatten_cons, List.flatten_nil, Nat.zero_add, Nat.reduceAdd, chunk]; rfl) | rfl) ?_
          | refine q_lenS_map rfl ?_
          | refine q_lenS rfl ?_
          | refine q_nil_drawn trivial ?_
          | (refine q_drawn fun n' hn' => ?_; simp only [List.length_cons, List.length_nil, Nat.zero_add, Nat.reduceAdd] at hn')
          | refine q_iadrS_nat rfl rfl (get_map (by omega)) rfl ?_
          | refine q_mov_out rfl ?_
          )
        rotate_right 2
        · have hti : l.take i = l := List.take_of_length_le (by omega)
          rw [hti] at hn
          (refine q_fin_bool hwf rfl ?_ ?_ ?_; (focus (rw [odd_of (k := c) (by omega) (by rw [hq, ← hn]; assumption)])); (focus (first | trivial | (simp only [keysP, and_true]; omega) | (repeat' (first | exact trivial | refine ⟨by omega, ?_⟩ | exact keys_vecB (fun k hk => by have := htk k hk; omega) trivial)))); omega)
        · have hti : l.take i = l := List.take_of_length_le (by omega)
          rw [hti] at hn
          refine q_loop_normal (c + 1, n') ⟨by simp only; omega, by simp only; omega, fun k hk hlt => ?_⟩ (by simp only; omega) (wk_mk hwf (by simp only; omega) (by simp) (by first | trivial | (simp only [keysP, and_true]; omega) | (repeat' (first | exact trivial | refine ⟨by omega, ?_⟩ | exact keys_vecB (fun k hk => by have := htk k hk; omega) trivial))) trivial (by simp only [fitsP]; repeat' (first | exact trivial | refine ⟨?_, ?_⟩ | exact .same trivial | exact wkV_out0 | exact wkV_out_eq hout (by omega) | exact wkV_ptr (by omega) | exact wkV_mapv (by omega) | exact .same (under_mono (by omega) hu.1) | exact .same (under_mono (by omega) hu.2.1) | exact .same (under_mono (by omega) hu.2.2.1) | exact wkV_int (by omega) | exact wkV_int (by simp) | exact .no _ _ _)))
          by_cases hkc : k = c
          · subst hkc; rw [hq, ← hn]; assumption
          · exact hz k hk (by simp only at hlt; omega)
        all_goals
          refine q_loop_normal (i + 1, _) ⟨by simp only; omega, ?_⟩ (by simp only; omega) (wk_mk hwf (by omega) (by omega) (by first | trivial | (simp only [keysP, and_true]; omega) | (repeat' (first | exact trivial | refine ⟨by omega, ?_⟩ | exact keys_vecB (fun k hk => by have := htk k hk; omega) trivial))) (by repeat' (first | exact trivial | refine ⟨?_, ?_⟩ | exact get_same | omega | refine get_other (by omega) ?_ | exact underL_mono (by omega) hu1)) (by simp only [fitsP]; repeat' (first | exact trivial | refine ⟨?_, ?_⟩ | exact .same trivial | exact wkV_out0 | exact wkV_out_eq hout (by omega) | exact wkV_ptr (by omega) | exact wkV_mapv (by omega) | exact .same (under_mono (by omega) hu.1) | exact .same (under_mono (by omega) hu.2.1) | exact .same (under_mono (by omega) hu.2.2.1) | exact wkV_int (by omega) | exact wkV_int (by simp) | exact .no _ _ _)))
          dsimp only
          rw [take_snoc (by omega), balK_append, ← hn]
          simp only [decide_eq_true_eq, decide_eq_false_iff_not] at *
          simp only [balK, Hf.fk, Hf.tk]
          (repeat' split) <;> first | omega | contradiction | (simp_all; done) | (simp_all; omega)
    · have hq : keyAt l c (by omega) = (l[c / 2]'(by omega)).fk := by simp only [keyAt]; rw [if_neg (by omega)]
      refine q_loop (γ := Nat × Int) (fun g => [(0, .p (.sl nl (l.map Hf.pv))), (3, vi c), (4, .ptr k4 0), (5, vi g.2), (6, vi g.1)]) (fun _ => ST S n' [(k4, .cells [vi (l[c / 2]'(by omega)).fx, vi (l[c / 2]'(by omega)).fy])]) (fun g => g.1 ≤ l.length ∧ g.2 = balK (l[c / 2]'(by omega)).fk (l.take g.1)) (fun g => l.length - g.1) (0, 0) (by exact ⟨by simp, rfl⟩) ?_ ?_
      · exact wk_mk hwf (by omega) (by omega) (by first | trivial | (simp only [keysP, and_true]; omega) | (repeat' (first | exact trivial | refine ⟨by omega, ?_⟩ | exact keys_vecB (fun k hk => by have := htk k hk; omega) trivial))) (by repeat' (first | exact trivial | refine ⟨?_, ?_⟩ | exact get_same | omega | refine get_other (by omega) ?_ | exact underL_mono (by omega) hu1)) (by simp only [fitsP]; repeat' (first | exact trivial | refine ⟨?_, ?_⟩ | exact .same trivial | exact wkV_out0 | exact wkV_out_eq hout (by omega) | exact wkV_ptr (by omega) | exact wkV_mapv (by omega) | exact .same (under_mono (by omega) hu.1) | exact .same (under_mono (by omega) hu.2.1) | exact .same (under_mono (by omega) hu.2.2.1) | exact wkV_int (by omega) | exact wkV_int (by simp) | exact .no _ _ _))
      · rintro ⟨i, n⟩ ⟨hi, hn⟩
        dsimp only at *
        have hbd := balK_bd (l[c / 2]'(by omega)).fk (l.take i)
        have hbl : ((l.take i).length : Int) ≤ i := by simp; omega
        repeat' (first
          | refine q_iadrS_nat (i := i) rfl rfl (get_map (by omega)) rfl ?_
          | refine q_eqA rfl rfl eqk (fun he => ?_) (fun he => ?_)
          | refine q_seq ?_
          | (refine q_reg fun n' hn' => ?_; simp only [List.length_cons, List.length_nil, Nat.zero_add, Nat.reduceAdd] at hn')
          | refine q_mov_p rfl ?_
          | refine q_mov_agg rfl ?_
          | refine q_lss rfl rfl (fun h => ?_) (fun h => ?_)
          | refine q_eql rfl rfl (fun h => ?_) (fun h => ?_)
          | refine q_neq rfl rfl (fun h => ?_) (fun h => ?_)
          | refine q_nil_drawn trivial ?_
          | refine q_nil_drawn (sep1 rfl rfl (by omega) trivial) ?_
          | refine q_nil_drawn (sep1 rfl rfl (by omega) (sep1 rfl rfl (by omega) trivial)) ?_
          | refine q_nil ?_
          | refine q_normal ?_
          | refine q_cond_t rfl ?_
          | refine q_cond_f rfl ?_
          | refine q_block ?_
          | refine q_exit ?_
          | refine q_ret ?_
          | refine q_skip ?_
          | refine q_seq_exit ?_
          | refine q_loop_exit ?_
          | refine q_loop_ret ?_
          | refine q_seq_ret ?_
          | refine q_block_normal ?_
          | refine q_block_ret ?_
          | refine q_block_hit ?_
          | refine q_block_miss rfl ?_
          | refine q_add rfl rfl (wrap64 (by omega)) ?_
          | refine q_sub rfl rfl (wrap64 (by omega)) ?_
          | refine q_mul rfl rfl (wrap64 (by omega)) ?_
          | refine q_mul31 rfl rfl (by omega) (by omega) (fun hm1 hm2 => ?_)
          | (refine q_alloc fun k hk => ?_)
          | refine q_fadr rfl rfl ?_
          | refine q_fadr_ref rfl rfl ?_
          | refine q_mov_ptr rfl ?_
          | refine q_mov_ref rfl ?_
          | refine q_mov_sl rfl ?_
          | refine q_mov_fn rfl ?_
          | refine q_loadA_ref rfl (Nat.le_of_ble_eq_true rfl) (by first | (simp only [Hf.pv, List.take_zero, List.take_succ_cons, List.take_nil, List.drop_zero, List.drop_succ_cons, List.drop_nil, List.nil_append, List.cons_append, List.append_nil, List.map_cons, List.map_nil, List.replicate_succ, List.replicate_zero, List.flatten_cons, List.flatten_nil, Nat.zero_add, Nat.reduceAdd, chunk]; rfl) | rfl) ?_
          | refine q_loadA rfl (by repeat (first | exact get_same | refine get_other (by omega) ?_)) (Nat.le_of_ble_eq_true rfl) (by first | (simp only [Hf.pv, List.take_zero, List.take_succ_cons, List.take_nil, List.drop_zero, List.drop_succ_cons, List.drop_nil, List.nil_append, List.cons_append, List.append_nil, List.map_cons, List.map_nil, List.replicate_succ, List.replicate_zero, List.flatten_cons, List.flatten_nil, Nat.zero_add, Nat.reduceAdd, chunk]; rfl) | rfl) ?_
          | refine q_store_agg rfl (by repeat (first | exact get_same | refine get_other (by omega) ?_)) rfl rfl (Nat.le_of_ble_eq_true rfl) (by first | (simp only [Hf.pv, List.take_zero, List.take_succ_cons, List.take_nil, List.drop_zero, List.drop_succ_cons, List.drop_nil, List.nil_append, List.cons_append, List.append_nil, List.map_cons, List.map_nil, List.replicate_succ, List.replicate_zero, List.flatten_cons, List.flatten_nil, Nat.zero_add, Nat.reduceAdd, chunk]; rfl) | rfl) ?_
          | refine q_store_p rfl (by repeat (first | exact get_same | refine get_other (by omega) ?_)) rfl (Nat.le_of_ble_eq_true rfl) (by first | (simp only [Hf.pv, List.take_zero, List.take_succ_cons, List.take_nil, List.drop_zero, List.drop_succ_cons, List.drop_nil, List.nil_append, List.cons_append, List.append_nil, List.map_cons, List.map_nil, List.replicate_succ, List.replicate_zero, List.flatten_cons, List.flatten_nil, Nat.zero_add, Nat.reduceAdd, chunk]; rfl) | rfl) ?_
          | refine q_store_sl rfl (by repeat (first | exact get_same | refine get_other (by omega) ?_)) rfl (Nat.le_of_ble_eq_true rfl) (by first | (simp only [Hf.pv, List.take_zero, List.take_succ_cons, List.take_nil, List.drop_zero, List.drop_succ_cons, List.drop_nil, List.nil_append, List.cons_append, List.append_nil, List.map_cons, List.map_nil, List.replicate_succ, List.replicate_zero, List.flatten_cons, List.flatten_nil, Nat.zero_add, Nat.reduceAdd, chunk]; rfl) | rfl) ?_
          | refine q_store_fn rfl (by repeat (first | exact get_same | refine get_other (by omega) ?_)) rfl (Nat.le_of_ble_eq_true rfl) (by first | (simp only [Hf.pv, List.take_zero, List.take_succ_cons, List.take_nil, List.drop_zero, List.drop_succ_cons, List.drop_nil, List.nil_append, List.cons_append, List.append_nil, List.map_cons, List.map_nil, List.replicate_succ, List.replicate_zero, List.flatten_cons, List.flatten_nil, Nat.zero_add, Nat.reduceAdd, chunk]; rfl) | rfl) ?_
          | refine q_lenS_map rfl ?_
          | refine q_lenS rfl ?_
          | refine q_nil_drawn trivial ?_
          | (refine q_drawn fun n' hn' => ?_; simp only [List.length_cons, List.length_nil, Nat.zero_add, Nat.reduceAdd] at hn')
          | refine q_iadrS_nat rfl rfl (get_map (by omega)) rfl ?_
          | refine q_mov_out rfl ?_
          )
        rotate_right 2
        · have hti : l.take i = l := List.take_of_length_le (by omega)
          rw [hti] at hn
          (refine q_fin_bool hwf rfl ?_ ?_ ?_; (focus (rw [odd_of (k := c) (by omega) (by rw [hq, ← hn]; assumption)])); (focus (first | trivial | (simp only [keysP, and_true]; omega) | (repeat' (first | exact trivial | refine ⟨by omega, ?_⟩ | exact keys_vecB (fun k hk => by have := htk k hk; omega) trivial)))); omega)
        · have hti : l.take i = l := List.take_of_length_le (by omega)
          rw [hti] at hn
          refine q_loop_normal (c + 1, n') ⟨by simp only; omega, by simp only; omega, fun k hk hlt => ?_⟩ (by simp only; omega) (wk_mk hwf (by simp only; omega) (by simp) (by first | trivial | (simp only [keysP, and_true]; omega) | (repeat' (first | exact trivial | refine ⟨by omega, ?_⟩ | exact keys_vecB (fun k hk => by have := htk k hk; omega) trivial))) trivial (by simp only [fitsP]; repeat' (first | exact trivial | refine ⟨?_, ?_⟩ | exact .same trivial | exact wkV_out0 | exact wkV_out_eq hout (by omega) | exact wkV_ptr (by omega) | exact wkV_mapv (by omega) | exact .same (under_mono (by omega) hu.1) | exact .same (under_mono (by omega) hu.2.1) | exact .same (under_mono (by omega) hu.2.2.1) | exact wkV_int (by omega) | exact wkV_int (by simp) | exact .no _ _ _)))
          by_cases hkc : k = c
          · subst hkc; rw [hq, ← hn]; assumption
          · exact hz k hk (by simp only at hlt; omega)
        all_goals
          refine q_loop_normal (i + 1, _) ⟨by simp only; omega, ?_⟩ (by simp only; omega) (wk_mk hwf (by omega) (by omega) (by first | trivial | (simp only [keysP, and_true]; omega) | (repeat' (first | exact trivial | refine ⟨by omega, ?_⟩ | exact keys_vecB (fun k hk => by have := htk k hk; omega) trivial))) (by repeat' (first | exact trivial | refine ⟨?_, ?_⟩ | exact get_same | omega | refine get_other (by omega) ?_ | exact underL_mono (by omega) hu1)) (by simp only [fitsP]; repeat' (first | exact trivial | refine ⟨?_, ?_⟩ | exact .same trivial | exact wkV_out0 | exact wkV_out_eq hout (by omega) | exact wkV_ptr (by omega) | exact wkV_mapv (by omega) | exact .same (under_mono (by omega) hu.1) | exact .same (under_mono (by omega) hu.2.1) | exact .same (under_mono (by omega) hu.2.2.1) | exact wkV_int (by omega) | exact wkV_int (by simp) | exact .no _ _ _)))
          dsimp only
          rw [take_snoc (by omega), balK_append, ← hn]
          simp only [decide_eq_true_eq, decide_eq_false_iff_not] at *
          simp only [balK, Hf.fk, Hf.tk]
          (repeat' split) <;> first | omega | contradiction | (simp_all; done) | (simp_all; omega)
    · have hyes := even_of (l := l) (fun k hk => hz k hk (by omega))
      (refine q_fin_bool hwf rfl ?_ ?_ ?_; (focus (rw [hyes])); (focus (first | trivial | (simp only [keysP, and_true]; omega) | (repeat' (first | exact trivial | refine ⟨by omega, ?_⟩ | exact keys_vecB (fun k hk => by have := htk k hk; omega) trivial)))); omega)
end Go.Proofs.Ytakjakmhecfmiaa

