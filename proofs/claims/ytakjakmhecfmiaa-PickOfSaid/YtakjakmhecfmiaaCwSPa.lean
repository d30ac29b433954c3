/- CONTRACTS: comparisons, halves; as many come as go. -/
import Derived.Test.YtakjakmhecfmiaaCwLP
import Derived.Test.YtakjakmhecfmiaaCwW
set_option linter.unusedVariables false
set_option linter.unusedSimpArgs false
set_option maxHeartbeats 4000000
set_option maxRecDepth 20000
namespace Go.Proofs.Ytakjakmhecfmiaa
open Go.Cw
theorem hmix : Try.prog.follows .mixedOrders = true := by kernel_rfl
attribute [local irreducible] aops awp seqQ blockQ seqC loopQ endQ getB

theorem spec178 (S : St) (n : Int) : ASpec Try.prog 35 [vi n] S (vb false) S := by
  refine q_fun hmix c178 rfl (Nat.le_of_ble_eq_true rfl) fun hwf hu => ?_
  repeat' (first
    | refine q_seq ?_
    | (refine q_reg fun n' hn' => ?_; simp only [List.length_cons, List.length_nil, Nat.zero_add, Nat.reduceAdd] at hn')
    | refine q_mov_p rfl ?_
    | refine q_mov_agg rfl ?_
    | refine q_neq rfl rfl (fun h => ?_) (fun h => ?_)
    | refine q_nil ?_
    | refine q_normal ?_
    | refine q_ret ?_
    | refine q_skip ?_
    | refine q_seq_ret ?_
    | refine q_mov_ptr rfl ?_
    | refine q_mov_ref rfl ?_
    | refine q_mov_sl rfl ?_
    | refine q_mov_fn rfl ?_
    )
  all_goals first | contradiction | (refine q_fin_bool hwf rfl ?_ ?_ ?_; (focus (simp)); (focus (first | trivial | (simp only [keysP, and_true]; omega) | (repeat' (first | exact trivial | refine ⟨by omega, ?_⟩ | exact keys_vecB (fun k hk => by have := htk k hk; omega) trivial)))); omega)

def cmpI (a b : Int) : Int := if a < b then -1 else if b < a then 1 else 0
theorem spec111 (S : St) (a b : Int) : ASpec Try.prog 32 [vi a, vi b] S (vi (cmpI a b)) S := by
  refine q_fun hmix c111 rfl (Nat.le_of_ble_eq_true rfl) fun hwf hu => ?_
  repeat' (first
    | refine q_call_b (fun S => spec178 S _) (fun h => ?_) (fun h => ?_)
    | refine q_seq ?_
    | (refine q_reg fun n' hn' => ?_; simp only [List.length_cons, List.length_nil, Nat.zero_add, Nat.reduceAdd] at hn')
    | refine q_mov_p rfl ?_
    | refine q_mov_agg rfl ?_
    | refine q_lss rfl rfl (fun h => ?_) (fun h => ?_)
    | refine q_gtr rfl rfl (fun h => ?_) (fun h => ?_)
    | refine q_nil ?_
    | refine q_normal ?_
    | refine q_cond_t rfl ?_
    | refine q_cond_f rfl ?_
    | refine q_ret ?_
    | refine q_skip ?_
    | refine q_seq_ret ?_
    | refine q_mov_ptr rfl ?_
    | refine q_mov_ref rfl ?_
    | refine q_mov_sl rfl ?_
    | refine q_mov_fn rfl ?_
    | refine q_mov_tup rfl ?_
    )
  all_goals first | contradiction | (refine q_fin_int hwf rfl ?_ ?_ ?_; (focus (simp only [cmpI]; split <;> (try split) <;> omega)); (focus (first | trivial | (simp only [keysP, and_true]; omega) | (repeat' (first | exact trivial | refine ⟨by omega, ?_⟩ | exact keys_vecB (fun k hk => by have := htk k hk; omega) trivial)))); omega)

def orI : List Int → Int
  | [] => 0
  | x :: xs => if x ≠ 0 then x else orI xs
theorem spec88 (S : St) (nl : Bool) (xs : List Int) (hl : xs.length < 1000000) : ASpec Try.prog 23 [.p (.sl nl (xs.map fun x => [.int .i64 x]))] S (vi (orI xs)) S := by
  refine q_fun hmix c88 rfl (Nat.le_of_ble_eq_true rfl) fun hwf hu => ?_
  repeat' (first
    | refine q_seq ?_
    | (refine q_reg fun n' hn' => ?_; simp only [List.length_cons, List.length_nil, Nat.zero_add, Nat.reduceAdd] at hn')
    | refine q_mov_p rfl ?_
    | refine q_mov_agg rfl ?_
    | refine q_lss rfl rfl (fun h => ?_) (fun h => ?_)
    | refine q_neq rfl rfl (fun h => ?_) (fun h => ?_)
    | refine q_nil ?_
    | refine q_normal ?_
    | refine q_cond_t rfl ?_
    | refine q_cond_f rfl ?_
    | refine q_block ?_
    | refine q_exit ?_
    | refine q_ret ?_
    | refine q_skip ?_
    | refine q_seq_exit ?_
    | refine q_loop_exit ?_
    | refine q_loop_ret ?_
    | refine q_seq_ret ?_
    | refine q_block_normal ?_
    | refine q_block_ret ?_
    | refine q_block_hit ?_
    | refine q_block_miss rfl ?_
    | refine q_add rfl rfl (wrap64 (by omega)) ?_
    | refine q_mov_ptr rfl ?_
    | refine q_mov_ref rfl ?_
    | refine q_mov_sl rfl ?_
    | refine q_mov_fn rfl ?_
    | refine q_load1_ref rfl rfl ?_
    | refine q_load1 rfl (by repeat (first | exact get_same | refine get_other (by omega) ?_)) rfl ?_
    | refine q_lenS_map rfl ?_
    | refine q_lenS rfl ?_
    | refine q_iadrS_nat rfl rfl (get_map (by omega)) rfl ?_
    | refine q_mov_out rfl ?_
    )
  refine q_loop (γ := Nat) (fun i => [(3, vi 0), (6, .p (.sl nl (xs.map fun x => [.int .i64 x]))), (7, vi (xs.length : Nat)), (8, vi i)]) (fun _ => ST S n' []) (fun i => i ≤ xs.length ∧ orI xs = orI (xs.drop i)) (fun i => xs.length - i) 0 (by simp) ?_ ?_
  · exact wk_mk hwf (by omega) (by omega) (by first | trivial | (simp only [keysP, and_true]; omega) | (repeat' (first | exact trivial | refine ⟨by omega, ?_⟩ | exact keys_vecB (fun k hk => by have := htk k hk; omega) trivial))) trivial (by simp only [fitsP]; repeat' (first | exact trivial | refine ⟨?_, ?_⟩ | exact .same trivial | exact wkV_out0 | exact wkV_out_eq hout (by omega) | exact wkV_ptr (by omega) | exact wkV_mapv (by omega) | exact .same (under_mono (by omega) hu.1) | exact .same (under_mono (by omega) hu.2.1) | exact .same (under_mono (by omega) hu.2.2.1) | exact wkV_int (by omega) | exact wkV_int (by simp) | exact .no _ _ _))
  · rintro i ⟨hi, hor⟩
    repeat' (first
      | refine q_seq ?_
      | (refine q_reg fun n' hn' => ?_; simp only [List.length_cons, List.length_nil, Nat.zero_add, Nat.reduceAdd] at hn')
      | refine q_mov_p rfl ?_
      | refine q_mov_agg rfl ?_
      | refine q_lss rfl rfl (fun h => ?_) (fun h => ?_)
      | refine q_neq rfl rfl (fun h => ?_) (fun h => ?_)
      | refine q_nil ?_
      | refine q_normal ?_
      | refine q_cond_t rfl ?_
      | refine q_cond_f rfl ?_
      | refine q_block ?_
      | refine q_exit ?_
      | refine q_ret ?_
      | refine q_skip ?_
      | refine q_seq_exit ?_
      | refine q_loop_exit ?_
      | refine q_loop_ret ?_
      | refine q_seq_ret ?_
      | refine q_block_normal ?_
      | refine q_block_ret ?_
      | refine q_block_hit ?_
      | refine q_block_miss rfl ?_
      | refine q_add rfl rfl (wrap64 (by omega)) ?_
      | refine q_mov_ptr rfl ?_
      | refine q_mov_ref rfl ?_
      | refine q_mov_sl rfl ?_
      | refine q_mov_fn rfl ?_
      | refine q_load1_ref rfl rfl ?_
      | refine q_load1 rfl (by repeat (first | exact get_same | refine get_other (by omega) ?_)) rfl ?_
      | refine q_lenS_map rfl ?_
      | refine q_lenS rfl ?_
      | refine q_iadrS_nat rfl rfl (get_map (by omega)) rfl ?_
      | refine q_mov_out rfl ?_
      )
    · (refine q_fin_int hwf rfl ?_ ?_ ?_; (focus (rw [hor, drop_cons (by omega)]; simp [orI]; intro e; exact absurd e h)); (focus (first | trivial | (simp only [keysP, and_true]; omega) | (repeat' (first | exact trivial | refine ⟨by omega, ?_⟩ | exact keys_vecB (fun k hk => by have := htk k hk; omega) trivial)))); omega)
    · refine q_loop_normal (i + 1) ⟨by omega, by rw [hor, drop_cons (by omega)]; simp [orI, h]⟩ (by omega) (wk_mk hwf (by omega) (by omega) (by first | trivial | (simp only [keysP, and_true]; omega) | (repeat' (first | exact trivial | refine ⟨by omega, ?_⟩ | exact keys_vecB (fun k hk => by have := htk k hk; omega) trivial))) trivial (by simp only [fitsP]; repeat' (first | exact trivial | refine ⟨?_, ?_⟩ | exact .same trivial | exact wkV_out0 | exact wkV_out_eq hout (by omega) | exact wkV_ptr (by omega) | exact wkV_mapv (by omega) | exact .same (under_mono (by omega) hu.1) | exact .same (under_mono (by omega) hu.2.1) | exact .same (under_mono (by omega) hu.2.2.1) | exact wkV_int (by omega) | exact wkV_int (by simp) | exact .no _ _ _)))
    · (refine q_fin_int hwf rfl ?_ ?_ ?_; (focus (rw [hor, List.drop_eq_nil_of_le (by omega)]; rfl)); (focus (first | trivial | (simp only [keysP, and_true]; omega) | (repeat' (first | exact trivial | refine ⟨by omega, ?_⟩ | exact keys_vecB (fun k hk => by have := htk k hk; omega) trivial)))); omega)

structure Pt where
  x : Int
  y : Int
deriving DecidableEq

def gcmp (p q : Pt) : Int := orI [cmpI p.x q.x, cmpI p.y q.y]
theorem spec42 (S : St) (px py qx qy : Int) : ASpec Try.prog 24 [.agg [vi px, vi py], .agg [vi qx, vi qy]] S (vi (gcmp ⟨px, py⟩ ⟨qx, qy⟩)) S := by
  refine q_fun hmix c42 rfl (Nat.le_of_ble_eq_true rfl) fun hwf hu => ?_
  repeat' (first
    | refine q_call (fun S => spec111 S _ _) ?_
    | refine q_call (fun S => ASpec.fg (spec88 S _ [cmpI px qx, cmpI py qy] (by simp))) ?_
    | refine q_seq ?_
    | (refine q_reg fun n' hn' => ?_; simp only [List.length_cons, List.length_nil, Nat.zero_add, Nat.reduceAdd] at hn')
    | refine q_mov_p rfl ?_
    | refine q_mov_agg rfl ?_
    | refine q_nil_drawn trivial ?_
    | refine q_nil_drawn (sep1 rfl rfl (by omega) trivial) ?_
    | refine q_nil_drawn (sep1 rfl rfl (by omega) (sep1 rfl rfl (by omega) trivial)) ?_
    | refine q_nil ?_
    | refine q_normal ?_
    | refine q_ret ?_
    | refine q_skip ?_
    | refine q_seq_ret ?_
    | (refine q_box_agg rfl fun k hk => ?_)
    | (refine q_box_p rfl fun k hk => ?_)
    | (refine q_box_sl rfl fun k hk => ?_)
    | (refine q_box_fn rfl fun k hk => ?_)
    | refine q_fadr rfl rfl ?_
    | refine q_fadr_ref rfl rfl ?_
    | refine q_mov_ptr rfl ?_
    | refine q_mov_ref rfl ?_
    | refine q_mov_sl rfl ?_
    | refine q_mov_fn rfl ?_
    | refine q_load1_ref rfl rfl ?_
    | refine q_load1 rfl (by repeat (first | exact get_same | refine get_other (by omega) ?_)) rfl ?_
    | refine q_nil_drawn trivial ?_
    | (refine q_drawn fun n' hn' => ?_; simp only [List.length_cons, List.length_nil, Nat.zero_add, Nat.reduceAdd] at hn')
    | refine q_mov_tup rfl ?_
    | (apply q_bslice; (focus (repeat' (first | exact fill_nil | (apply fill_p rfl (Nat.le_of_ble_eq_true rfl); (focus (first | (simp only [List.take_zero, List.take_succ_cons, List.take_nil, List.drop_zero, List.drop_succ_cons, List.drop_nil, List.nil_append, List.cons_append, List.append_nil, List.map_cons, List.map_nil, List.replicate_succ, List.replicate_zero, List.flatten_cons, List.flatten_nil, Nat.zero_add, Nat.reduceAdd, chunk]; rfl) | rfl))) | (apply fill_agg; (focus rfl); (focus rfl); (focus exact Nat.le_of_ble_eq_true rfl); (focus (first | (simp only [List.take_zero, List.take_succ_cons, List.take_nil, List.drop_zero, List.drop_succ_cons, List.drop_nil, List.nil_append, List.cons_append, List.append_nil, List.map_cons, List.map_nil, List.replicate_succ, List.replicate_zero, List.flatten_cons, List.flatten_nil, Nat.zero_add, Nat.reduceAdd, chunk]; rfl) | rfl))) | (apply fill_sl rfl (Nat.le_of_ble_eq_true rfl); (focus (first | (simp only [List.take_zero, List.take_succ_cons, List.take_nil, List.drop_zero, List.drop_succ_cons, List.drop_nil, List.nil_append, List.cons_append, List.append_nil, List.map_cons, List.map_nil, List.replicate_succ, List.replicate_zero, List.flatten_cons, List.flatten_nil, Nat.zero_add, Nat.reduceAdd, chunk]; rfl) | rfl))) | (apply fill_fn rfl (Nat.le_of_ble_eq_true rfl); (focus (first | (simp only [List.take_zero, List.take_succ_cons, List.take_nil, List.drop_zero, List.drop_succ_cons, List.drop_nil, List.nil_append, List.cons_append, List.append_nil, List.map_cons, List.map_nil, List.replicate_succ, List.replicate_zero, List.flatten_cons, List.flatten_nil, Nat.zero_add, Nat.reduceAdd, chunk]; rfl) | rfl))) | (apply fill_ptr rfl (Nat.le_of_ble_eq_true rfl); (focus (first | (simp only [List.take_zero, List.take_succ_cons, List.take_nil, List.drop_zero, List.drop_succ_cons, List.drop_nil, List.nil_append, List.cons_append, List.append_nil, List.map_cons, List.map_nil, List.replicate_succ, List.replicate_zero, List.flatten_cons, List.flatten_nil, Nat.zero_add, Nat.reduceAdd, chunk]; rfl) | rfl)))))); (focus rfl); (focus (first | (simp only [List.take_zero, List.take_succ_cons, List.take_nil, List.drop_zero, List.drop_succ_cons, List.drop_nil, List.nil_append, List.cons_append, List.append_nil, List.map_cons, List.map_nil, List.replicate_succ, List.replicate_zero, List.flatten_cons, List.flatten_nil, Nat.zero_add, Nat.reduceAdd, chunk]; rfl) | rfl)))
    )
  all_goals (refine q_fin_int hwf rfl ?_ ?_ ?_; (focus (rfl)); (focus (first | trivial | (simp only [keysP, and_true]; omega) | (repeat' (first | exact trivial | refine ⟨by omega, ?_⟩ | exact keys_vecB (fun k hk => by have := htk k hk; omega) trivial)))); omega)

def lessP (p q : Pt) : Bool := decide (p.x < q.x) || decide (p.x = q.x) && decide (p.y < q.y)
theorem spec91 (S : St) (px py qx qy : Int) : ASpec Try.prog 27 [.agg [vi px, vi py], .agg [vi qx, vi qy]] S (vb (lessP ⟨px, py⟩ ⟨qx, qy⟩)) S := by
  refine q_fun hmix c91 rfl (Nat.le_of_ble_eq_true rfl) fun hwf hu => ?_
  repeat' (first
    | refine q_seq ?_
    | (refine q_reg fun n' hn' => ?_; simp only [List.length_cons, List.length_nil, Nat.zero_add, Nat.reduceAdd] at hn')
    | refine q_mov_p rfl ?_
    | refine q_on rfl ?_
    | refine q_off rfl rfl ?_
    | refine q_off_tup rfl ?_
    | refine q_mov_agg rfl ?_
    | refine q_lss rfl rfl (fun h => ?_) (fun h => ?_)
    | refine q_eql rfl rfl (fun h => ?_) (fun h => ?_)
    | refine q_pick_t rfl ?_
    | refine q_pick_f rfl ?_
    | refine q_nil ?_
    | refine q_normal ?_
    | refine q_ret ?_
    | refine q_skip ?_
    | refine q_seq_ret ?_
    | (refine q_box_agg rfl fun k hk => ?_)
    | (refine q_box_p rfl fun k hk => ?_)
    | (refine q_box_sl rfl fun k hk => ?_)
    | (refine q_box_fn rfl fun k hk => ?_)
    | refine q_fadr rfl rfl ?_
    | refine q_fadr_ref rfl rfl ?_
    | refine q_mov_ptr rfl ?_
    | refine q_mov_ref rfl ?_
    | refine q_mov_sl rfl ?_
    | refine q_mov_fn rfl ?_
    | refine q_load1_ref rfl rfl ?_
    | refine q_load1 rfl (by repeat (first | exact get_same | refine get_other (by omega) ?_)) rfl ?_
    )
  all_goals (refine q_fin_bool hwf rfl ?_ ?_ ?_; (focus (simp [lessP]; omega)); (focus (first | trivial | (simp only [keysP, and_true]; omega) | (repeat' (first | exact trivial | refine ⟨by omega, ?_⟩ | exact keys_vecB (fun k hk => by have := htk k hk; omega) trivial)))); omega)

/-- A half. -/
structure Hf where
  fx : Int
  fy : Int
  tx : Int
  ty : Int
deriving DecidableEq
def Hf.pv (h : Hf) : List PV := [.int .i64 h.fx, .int .i64 h.fy, .int .i64 h.tx, .int .i64 h.ty]
def Hf.f (h : Hf) : Pt := ⟨h.fx, h.fy⟩
def Hf.t (h : Hf) : Pt := ⟨h.tx, h.ty⟩

def hcmp (a b : Hf) : Int := orI [gcmp a.f b.f, gcmp a.t b.t]
theorem specP9 (S : St) (a b c d a' b' c' d' : Int) : ASpec Try.prog 9 [.agg [vi a, vi b, vi c, vi d], .agg [vi a', vi b', vi c', vi d']] S (vi (hcmp ⟨a, b, c, d⟩ ⟨a', b', c', d'⟩)) S := by
  refine q_fun hmix cP9 rfl (Nat.le_of_ble_eq_true rfl) fun hwf hu => ?_
  repeat' (first
    | refine q_call (fun S => spec42 S _ _ _ _) ?_
    | refine q_call (fun S => ASpec.fg (spec88 S _ [gcmp ⟨a, b⟩ ⟨a', b'⟩, gcmp ⟨c, d⟩ ⟨c', d'⟩] (by simp))) ?_
    | refine q_seq ?_
    | (refine q_reg fun n' hn' => ?_; simp only [List.length_cons, List.length_nil, Nat.zero_add, Nat.reduceAdd] at hn')
    | refine q_mov_p rfl ?_
    | refine q_mov_agg rfl ?_
    | refine q_nil_drawn trivial ?_
    | refine q_nil_drawn (sep1 rfl rfl (by omega) trivial) ?_
    | refine q_nil_drawn (sep1 rfl rfl (by omega) (sep1 rfl rfl (by omega) trivial)) ?_
    | refine q_nil ?_
    | refine q_normal ?_
    | refine q_ret ?_
    | refine q_skip ?_
    | refine q_seq_ret ?_
    | (refine q_box_agg rfl fun k hk => ?_)
    | (refine q_box_p rfl fun k hk => ?_)
    | (refine q_box_sl rfl fun k hk => ?_)
    | (refine q_box_fn rfl fun k hk => ?_)
    | refine q_fadr rfl rfl ?_
    | refine q_fadr_ref rfl rfl ?_
    | refine q_mov_ptr rfl ?_
    | refine q_mov_ref rfl ?_
    | refine q_mov_sl rfl ?_
    | refine q_mov_fn rfl ?_
    | refine q_loadA_ref rfl (Nat.le_of_ble_eq_true rfl) (by first | (simp only [List.take_zero, List.take_succ_cons, List.take_nil, List.drop_zero, List.drop_succ_cons, List.drop_nil, List.nil_append, List.cons_append, List.append_nil, List.map_cons, List.map_nil, List.replicate_succ, List.replicate_zero, List.flatten_cons, List.flatten_nil, Nat.zero_add, Nat.reduceAdd, chunk]; rfl) | rfl) ?_
    | refine q_loadA rfl (by repeat (first | exact get_same | refine get_other (by omega) ?_)) (Nat.le_of_ble_eq_true rfl) (by first | (simp only [List.take_zero, List.take_succ_cons, List.take_nil, List.drop_zero, List.drop_succ_cons, List.drop_nil, List.nil_append, List.cons_append, List.append_nil, List.map_cons, List.map_nil, List.replicate_succ, List.replicate_zero, List.flatten_cons, List.flatten_nil, Nat.zero_add, Nat.reduceAdd, chunk]; rfl) | rfl) ?_
    | refine q_nil_drawn trivial ?_
    | (refine q_drawn fun n' hn' => ?_; simp only [List.length_cons, List.length_nil, Nat.zero_add, Nat.reduceAdd] at hn')
    | refine q_mov_tup rfl ?_
    | (apply q_bslice; (focus (repeat' (first | exact fill_nil | (apply fill_p rfl (Nat.le_of_ble_eq_true rfl); (focus (first | (simp only [List.take_zero, List.take_succ_cons, List.take_nil, List.drop_zero, List.drop_succ_cons, List.drop_nil, List.nil_append, List.cons_append, List.append_nil, List.map_cons, List.map_nil, List.replicate_succ, List.replicate_zero, List.flatten_cons, List.flatten_nil, Nat.zero_add, Nat.reduceAdd, chunk]; rfl) | rfl))) | (apply fill_agg; (focus rfl); (focus rfl); (focus exact Nat.le_of_ble_eq_true rfl); (focus (first | (simp only [List.take_zero, List.take_succ_cons, List.take_nil, List.drop_zero, List.drop_succ_cons, List.drop_nil, List.nil_append, List.cons_append, List.append_nil, List.map_cons, List.map_nil, List.replicate_succ, List.replicate_zero, List.flatten_cons, List.flatten_nil, Nat.zero_add, Nat.reduceAdd, chunk]; rfl) | rfl))) | (apply fill_sl rfl (Nat.le_of_ble_eq_true rfl); (focus (first | (simp only [List.take_zero, List.take_succ_cons, List.take_nil, List.drop_zero, List.drop_succ_cons, List.drop_nil, List.nil_append, List.cons_append, List.append_nil, List.map_cons, List.map_nil, List.replicate_succ, List.replicate_zero, List.flatten_cons, List.flatten_nil, Nat.zero_add, Nat.reduceAdd, chunk]; rfl) | rfl))) | (apply fill_fn rfl (Nat.le_of_ble_eq_true rfl); (focus (first | (simp only [List.take_zero, List.take_succ_cons, List.take_nil, List.drop_zero, List.drop_succ_cons, List.drop_nil, List.nil_append, List.cons_append, List.append_nil, List.map_cons, List.map_nil, List.replicate_succ, List.replicate_zero, List.flatten_cons, List.flatten_nil, Nat.zero_add, Nat.reduceAdd, chunk]; rfl) | rfl))) | (apply fill_ptr rfl (Nat.le_of_ble_eq_true rfl); (focus (first | (simp only [List.take_zero, List.take_succ_cons, List.take_nil, List.drop_zero, List.drop_succ_cons, List.drop_nil, List.nil_append, List.cons_append, List.append_nil, List.map_cons, List.map_nil, List.replicate_succ, List.replicate_zero, List.flatten_cons, List.flatten_nil, Nat.zero_add, Nat.reduceAdd, chunk]; rfl) | rfl)))))); (focus rfl); (focus (first | (simp only [List.take_zero, List.take_succ_cons, List.take_nil, List.drop_zero, List.drop_succ_cons, List.drop_nil, List.nil_append, List.cons_append, List.append_nil, List.map_cons, List.map_nil, List.replicate_succ, List.replicate_zero, List.flatten_cons, List.flatten_nil, Nat.zero_add, Nat.reduceAdd, chunk]; rfl) | rfl)))
    )
  all_goals (refine q_fin_int hwf rfl ?_ ?_ ?_; (focus (rfl)); (focus (first | trivial | (simp only [keysP, and_true]; omega) | (repeat' (first | exact trivial | refine ⟨by omega, ?_⟩ | exact keys_vecB (fun k hk => by have := htk k hk; omega) trivial)))); omega)

def aheadH (a b : Hf) : Bool := lessP a.f b.f || decide (a.f = b.f) && lessP a.t b.t
theorem specP14 (S : St) (a b c d a' b' c' d' : Int) : ASpec Try.prog 14 [.agg [vi a, vi b, vi c, vi d], .agg [vi a', vi b', vi c', vi d']] S (vb (aheadH ⟨a, b, c, d⟩ ⟨a', b', c', d'⟩)) S := by
  refine q_fun hmix cP14 rfl (Nat.le_of_ble_eq_true rfl) fun hwf hu => ?_
  repeat' (first
    | refine q_call_b (fun S => spec91 S _ _ _ _) (fun hr => ?_) (fun hr => ?_)
    | refine q_eqA rfl rfl rfl (fun he => ?_) (fun he => ?_)
    | refine q_seq ?_
    | (refine q_reg fun n' hn' => ?_; simp only [List.length_cons, List.length_nil, Nat.zero_add, Nat.reduceAdd] at hn')
    | refine q_mov_p rfl ?_
    | refine q_on rfl ?_
    | refine q_off rfl rfl ?_
    | refine q_off_tup rfl ?_
    | refine q_mov_agg rfl ?_
    | refine q_pick_t rfl ?_
    | refine q_pick_f rfl ?_
    | refine q_nil ?_
    | refine q_normal ?_
    | refine q_ret ?_
    | refine q_skip ?_
    | refine q_seq_ret ?_
    | (refine q_box_agg rfl fun k hk => ?_)
    | (refine q_box_p rfl fun k hk => ?_)
    | (refine q_box_sl rfl fun k hk => ?_)
    | (refine q_box_fn rfl fun k hk => ?_)
    | refine q_fadr rfl rfl ?_
    | refine q_fadr_ref rfl rfl ?_
    | refine q_mov_ptr rfl ?_
    | refine q_mov_ref rfl ?_
    | refine q_mov_sl rfl ?_
    | refine q_mov_fn rfl ?_
    | refine q_loadA_ref rfl (Nat.le_of_ble_eq_true rfl) (by first | (simp only [List.take_zero, List.take_succ_cons, List.take_nil, List.drop_zero, List.drop_succ_cons, List.drop_nil, List.nil_append, List.cons_append, List.append_nil, List.map_cons, List.map_nil, List.replicate_succ, List.replicate_zero, List.flatten_cons, List.flatten_nil, Nat.zero_add, Nat.reduceAdd, chunk]; rfl) | rfl) ?_
    | refine q_loadA rfl (by repeat (first | exact get_same | refine get_other (by omega) ?_)) (Nat.le_of_ble_eq_true rfl) (by first | (simp only [List.take_zero, List.take_succ_cons, List.take_nil, List.drop_zero, List.drop_succ_cons, List.drop_nil, List.nil_append, List.cons_append, List.append_nil, List.map_cons, List.map_nil, List.replicate_succ, List.replicate_zero, List.flatten_cons, List.flatten_nil, Nat.zero_add, Nat.reduceAdd, chunk]; rfl) | rfl) ?_
    | refine q_mov_tup rfl ?_
    )
  all_goals (refine q_fin_bool hwf rfl ?_ ?_ ?_; (focus (simp_all [aheadH, Hf.f, Hf.t])); (focus (first | trivial | (simp only [keysP, and_true]; omega) | (repeat' (first | exact trivial | refine ⟨by omega, ?_⟩ | exact keys_vecB (fun k hk => by have := htk k hk; omega) trivial)))); omega)

/-! ### As many come as go -/

def Hf.fk (h : Hf) : List Int := [h.fx, h.fy]
def Hf.tk (h : Hf) : List Int := [h.tx, h.ty]
def balK (p : List Int) : List Hf → Int
  | [] => 0
  | x :: l => balK p l + (if x.fk = p then 1 else 0) - (if x.tk = p then 1 else 0)
def evenL (l : List Hf) : Bool := l.all fun x => decide (balK x.fk l = 0) && decide (balK x.tk l = 0)

theorem balK_append (p : List Int) : ∀ (a b : List Hf), balK p (a ++ b) = balK p a + balK p b
  | [], b => by simp [balK]
  | x :: a, b => by simp only [List.cons_append, balK, balK_append p a b]; omega
theorem balK_bd (p : List Int) : ∀ (l : List Hf), -(l.length : Int) ≤ balK p l ∧ balK p l ≤ l.length
  | [] => by simp [balK]
  | x :: l => by
    have := balK_bd p l
    simp only [balK, List.length_cons]
    split <;> split <;> omega
theorem take_snoc {α : Type} {l : List α} {i : Nat} (h : i < l.length) : l.take (i + 1) = l.take i ++ [l[i]] := by rw [List.take_add_one, List.getElem?_eq_getElem h]; rfl

theorem set0 {p : List Int} {v d : Int} {g : KV} {cl : Nat} (hcl : cl = g.length) (hv : v = valK p g + d) : setB (entB p (mesOf g 0) cl) (.p (.int .i64 v)) (entE (.p (.int .i64 0)) p (mesOf g 0) cl) = some (mesOf (incK p d g) 0) := by
  have := set_mesOf (p := p) (v := v) (d := d) (g := g) (b := 0) hv
  rw [Nat.zero_add] at this
  rw [hcl]; exact this
theorem entC0 {p : List Int} (d : Int) {g : KV} {cl : Nat} (hcl : cl = g.length) : entC p (mesOf g 0) cl = (incK p d g).length := by
  have := entC_mesOf (p := p) (d := d) (g := g) (b := 0) (cl := cl)
  omega
theorem find0 {g : KV} {i : Nat} (h : i < g.length) : findB (0 + i) (mesOf g 0) = some (g[i].1, .p (.int .i64 g[i].2), 0 + i) := mesOf_find h
theorem under_mes {n : Nat} {g : KV} {b : Nat} : ∀ (i : Nat) (e : List Int × AV × Nat), (mesOf g b)[i]? = some e → e.2.1.under n := by
  intro i e h
  obtain ⟨j, hj, rfl⟩ := mesOf_mem (List.mem_of_getElem? h)
  trivial

structure EG where
  i : Nat
  n : Nat
  g : KV
  cl : Nat

/-- What the map holds, when the first halves have been counted. -/
structure Kept (l : List Hf) (g : KV) : Prop where
  val : ∀ p, valK p g = balK p l
  nod : (g.map (·.1)).Nodup
  keys : ∀ p, p ∈ g.map (·.1) ↔ ∃ x ∈ l, x.fk = p ∨ x.tk = p
theorem Kept.step {l : List Hf} {g : KV} (h : Kept l g) (x : Hf) : Kept (l ++ [x]) (incK x.tk (-1) (incK x.fk 1 g)) := by
  refine ⟨fun p => ?_, nodup_incK (nodup_incK h.nod), fun p => ?_⟩
  · rw [valK_inc, valK_inc, h.val, balK_append]; simp only [balK]; split <;> split <;> omega
  · rw [mem_incK, mem_incK, h.keys]
    simp only [List.mem_append, List.mem_singleton]
    constructor
    · rintro ((⟨y, hy, hp⟩ | rfl) | rfl)
      · exact ⟨y, .inl hy, hp⟩
      · exact ⟨x, .inr rfl, .inl rfl⟩
      · exact ⟨x, .inr rfl, .inr rfl⟩
    · rintro ⟨y, hy | rfl, hp⟩
      · exact .inl (.inl ⟨y, hy, hp⟩)
      · rcases hp with rfl | rfl
        · exact .inl (.inr rfl)
        · exact .inr rfl
theorem Kept.no {l : List Hf} {g : KV} (h : Kept l g) {i : Nat} (hi : i < g.length) (hn : g[i].2 ≠ 0) : evenL l = false := by
  have hm : g[i] ∈ g := List.getElem_mem hi
  have hv := valK_mem h.nod hm
  rw [h.val] at hv
  obtain ⟨x, hx, hp⟩ := (h.keys g[i].1).1 (List.mem_map.2 ⟨g[i], hm, rfl⟩)
  rw [evenL, List.all_eq_false]
  refine ⟨x, hx, ?_⟩
  rcases hp with hp | hp <;> rw [hp, hv] <;> simp [hn]
theorem Kept.yes {l : List Hf} {g : KV} (h : Kept l g) (hz : ∀ (i : Nat) (hi : i < g.length), g[i].2 = 0) : evenL l = true := by
  have z : ∀ p, p ∈ g.map (·.1) → balK p l = 0 := by
    intro p hp
    obtain ⟨e, he, rfl⟩ := List.mem_map.1 hp
    rw [← h.val, valK_mem h.nod he]
    obtain ⟨i, hi, rfl⟩ := List.getElem_of_mem he
    exact hz i hi
  rw [evenL, List.all_eq_true]
  intro x hx
  rw [z x.fk ((h.keys _).2 ⟨x, hx, .inl rfl⟩), z x.tk ((h.keys _).2 ⟨x, hx, .inr rfl⟩)]
  rfl

theorem specP15 (S : St) (nl : Bool) (l : List Hf) (hl : l.length ≤ 1048576) : ASpec Try.prog 15 [.p (.sl nl (l.map Hf.pv))] S (vb (evenL l)) S := by
  refine q_fun hmix cP15 rfl (Nat.le_of_ble_eq_true rfl) fun hwf hu => ?_
  repeat' (first
    | refine q_seq ?_
    | (refine q_reg fun n' hn' => ?_; simp only [List.length_cons, List.length_nil, Nat.zero_add, Nat.reduceAdd] at hn')
    | refine q_mov_p rfl ?_
    | refine q_mov_agg rfl ?_
    | refine q_lss rfl rfl (fun h => ?_) (fun h => ?_)
    | refine q_neq rfl rfl (fun h => ?_) (fun h => ?_)
    | refine q_nil_drawn trivial ?_
    | refine q_nil_drawn (sep1 rfl rfl (by omega) trivial) ?_
    | refine q_nil_drawn (sep1 rfl rfl (by omega) (sep1 rfl rfl (by omega) trivial)) ?_
    | refine q_nil ?_
    | refine q_normal ?_
    | refine q_cond_t rfl ?_
    | refine q_cond_f rfl ?_
    | refine q_block ?_
    | refine q_exit ?_
    | refine q_ret ?_
    | refine q_skip ?_
    | refine q_seq_exit ?_
    | refine q_loop_exit ?_
    | refine q_loop_ret ?_
    | refine q_seq_ret ?_
    | refine q_block_normal ?_
    | refine q_block_ret ?_
    | refine q_block_hit ?_
    | refine q_block_miss rfl ?_
    | refine q_add rfl rfl (wrap64 (by omega)) ?_
    | refine q_sub rfl rfl (wrap64 (by omega)) ?_
    | (refine q_alloc fun k hk => ?_)
    | refine q_fadr rfl rfl ?_
    | refine q_fadr_ref rfl rfl ?_
    | refine q_mov_ptr rfl ?_
    | refine q_mov_ref rfl ?_
    | refine q_mov_sl rfl ?_
    | refine q_mov_fn rfl ?_
    | refine q_loadA_ref rfl (Nat.le_of_ble_eq_true rfl) (by first | (simp only [Hf.pv, List.take_zero, List.take_succ_cons, List.take_nil, List.drop_zero, List.drop_succ_cons, List.drop_nil, List.nil_append, List.cons_append, List.append_nil, List.map_cons, List.map_nil, List.replicate_succ, List.replicate_zero, List.flatten_cons, List.flatten_nil, Nat.zero_add, Nat.reduceAdd, chunk]; rfl) | rfl) ?_
    | refine q_loadA rfl (by repeat (first | exact get_same | refine get_other (by omega) ?_)) (Nat.le_of_ble_eq_true rfl) (by first | (simp only [Hf.pv, List.take_zero, List.take_succ_cons, List.take_nil, List.drop_zero, List.drop_succ_cons, List.drop_nil, List.nil_append, List.cons_append, List.append_nil, List.map_cons, List.map_nil, List.replicate_succ, List.replicate_zero, List.flatten_cons, List.flatten_nil, Nat.zero_add, Nat.reduceAdd, chunk]; rfl) | rfl) ?_
    | refine q_store_agg rfl (by repeat (first | exact get_same | refine get_other (by omega) ?_)) rfl rfl (Nat.le_of_ble_eq_true rfl) (by first | (simp only [Hf.pv, List.take_zero, List.take_succ_cons, List.take_nil, List.drop_zero, List.drop_succ_cons, List.drop_nil, List.nil_append, List.cons_append, List.append_nil, List.map_cons, List.map_nil, List.replicate_succ, List.replicate_zero, List.flatten_cons, List.flatten_nil, Nat.zero_add, Nat.reduceAdd, chunk]; rfl) | rfl) ?_
    | refine q_store_p rfl (by repeat (first | exact get_same | refine get_other (by omega) ?_)) rfl (Nat.le_of_ble_eq_true rfl) (by first | (simp only [Hf.pv, List.take_zero, List.take_succ_cons, List.take_nil, List.drop_zero, List.drop_succ_cons, List.drop_nil, List.nil_append, List.cons_append, List.append_nil, List.map_cons, List.map_nil, List.replicate_succ, List.replicate_zero, List.flatten_cons, List.flatten_nil, Nat.zero_add, Nat.reduceAdd, chunk]; rfl) | rfl) ?_
    | refine q_store_sl rfl (by repeat (first | exact get_same | refine get_other (by omega) ?_)) rfl (Nat.le_of_ble_eq_true rfl) (by first | (simp only [Hf.pv, List.take_zero, List.take_succ_cons, List.take_nil, List.drop_zero, List.drop_succ_cons, List.drop_nil, List.nil_append, List.cons_append, List.append_nil, List.map_cons, List.map_nil, List.replicate_succ, List.replicate_zero, List.flatten_cons, List.flatten_nil, Nat.zero_add, Nat.reduceAdd, chunk]; rfl) | rfl) ?_
    | refine q_store_fn rfl (by repeat (first | exact get_same | refine get_other (by omega) ?_)) rfl (Nat.le_of_ble_eq_true rfl) (by first | (simp only [Hf.pv, List.take_zero, List.take_succ_cons, List.take_nil, List.drop_zero, List.drop_succ_cons, List.drop_nil, List.nil_append, List.cons_append, List.append_nil, List.map_cons, List.map_nil, List.replicate_succ, List.replicate_zero, List.flatten_cons, List.flatten_nil, Nat.zero_add, Nat.reduceAdd, chunk]; rfl) | rfl) ?_
    | refine q_lenS_map rfl ?_
    | refine q_lenS rfl ?_
    | refine q_nil_drawn trivial ?_
    | (refine q_drawn fun n' hn' => ?_; simp only [List.length_cons, List.length_nil, Nat.zero_add, Nat.reduceAdd] at hn')
    | refine q_iadrS_nat rfl rfl (get_map (by omega)) rfl ?_
    | refine q_ext rfl rfl ?_
    | refine q_mov_out rfl ?_
    )
  refine q_mapmk fun k8 hk8 => ?_
  repeat' (first
    | refine q_mov_mapv rfl ?_
    | refine q_seq ?_
    | (refine q_reg fun n' hn' => ?_; simp only [List.length_cons, List.length_nil, Nat.zero_add, Nat.reduceAdd] at hn')
    | refine q_mov_p rfl ?_
    | refine q_mov_agg rfl ?_
    | refine q_lss rfl rfl (fun h => ?_) (fun h => ?_)
    | refine q_neq rfl rfl (fun h => ?_) (fun h => ?_)
    | refine q_nil_drawn trivial ?_
    | refine q_nil_drawn (sep1 rfl rfl (by omega) trivial) ?_
    | refine q_nil_drawn (sep1 rfl rfl (by omega) (sep1 rfl rfl (by omega) trivial)) ?_
    | refine q_nil ?_
    | refine q_normal ?_
    | refine q_cond_t rfl ?_
    | refine q_cond_f rfl ?_
    | refine q_block ?_
    | refine q_exit ?_
    | refine q_ret ?_
    | refine q_skip ?_
    | refine q_seq_exit ?_
    | refine q_loop_exit ?_
    | refine q_loop_ret ?_
    | refine q_seq_ret ?_
    | refine q_block_normal ?_
    | refine q_block_ret ?_
    | refine q_block_hit ?_
    | refine q_block_miss rfl ?_
    | refine q_add rfl rfl (wrap64 (by omega)) ?_
    | refine q_sub rfl rfl (wrap64 (by omega)) ?_
    | (refine q_alloc fun k hk => ?_)
    | refine q_fadr rfl rfl ?_
    | refine q_fadr_ref rfl rfl ?_
    | refine q_mov_ptr rfl ?_
    | refine q_mov_ref rfl ?_
    | refine q_mov_sl rfl ?_
    | refine q_mov_fn rfl ?_
    | refine q_loadA_ref rfl (Nat.le_of_ble_eq_true rfl) (by first | (simp only [Hf.pv, List.take_zero, List.take_succ_cons, List.take_nil, List.drop_zero, List.drop_succ_cons, List.drop_nil, List.nil_append, List.cons_append, List.append_nil, List.map_cons, List.map_nil, List.replicate_succ, List.replicate_zero, List.flatten_cons, List.flatten_nil, Nat.zero_add, Nat.reduceAdd, chunk]; rfl) | rfl) ?_
    | refine q_loadA rfl (by repeat (first | exact get_same | refine get_other (by omega) ?_)) (Nat.le_of_ble_eq_true rfl) (by first | (simp only [Hf.pv, List.take_zero, List.take_succ_cons, List.take_nil, List.drop_zero, List.drop_succ_cons, List.drop_nil, List.nil_append, List.cons_append, List.append_nil, List.map_cons, List.map_nil, List.replicate_succ, List.replicate_zero, List.flatten_cons, List.flatten_nil, Nat.zero_add, Nat.reduceAdd, chunk]; rfl) | rfl) ?_
    | refine q_store_agg rfl (by repeat (first | exact get_same | refine get_other (by omega) ?_)) rfl rfl (Nat.le_of_ble_eq_true rfl) (by first | (simp only [Hf.pv, List.take_zero, List.take_succ_cons, List.take_nil, List.drop_zero, List.drop_succ_cons, List.drop_nil, List.nil_append, List.cons_append, List.append_nil, List.map_cons, List.map_nil, List.replicate_succ, List.replicate_zero, List.flatten_cons, List.flatten_nil, Nat.zero_add, Nat.reduceAdd, chunk]; rfl) | rfl) ?_
    | refine q_store_p rfl (by repeat (first | exact get_same | refine get_other (by omega) ?_)) rfl (Nat.le_of_ble_eq_true rfl) (by first | (simp only [Hf.pv, List.take_zero, List.take_succ_cons, List.take_nil, List.drop_zero, List.drop_succ_cons, List.drop_nil, List.nil_append, List.cons_append, List.append_nil, List.map_cons, List.map_nil, List.replicate_succ, List.replicate_zero, List.flatten_cons, List.flatten_nil, Nat.zero_add, Nat.reduceAdd, chunk]; rfl) | rfl) ?_
    | refine q_store_sl rfl (by repeat (first | exact get_same | refine get_other (by omega) ?_)) rfl (Nat.le_of_ble_eq_true rfl) (by first | (simp only [Hf.pv, List.take_zero, List.take_succ_cons, List.take_nil, List.drop_zero, List.drop_succ_cons, List.drop_nil, List.nil_append, List.cons_append, List.append_nil, List.map_cons, List.map_nil, List.replicate_succ, List.replicate_zero, List.flatten_cons, List.flatten_nil, Nat.zero_add, Nat.reduceAdd, chunk]; rfl) | rfl) ?_
    | refine q_store_fn rfl (by repeat (first | exact get_same | refine get_other (by omega) ?_)) rfl (Nat.le_of_ble_eq_true rfl) (by first | (simp only [Hf.pv, List.take_zero, List.take_succ_cons, List.take_nil, List.drop_zero, List.drop_succ_cons, List.drop_nil, List.nil_append, List.cons_append, List.append_nil, List.map_cons, List.map_nil, List.replicate_succ, List.replicate_zero, List.flatten_cons, List.flatten_nil, Nat.zero_add, Nat.reduceAdd, chunk]; rfl) | rfl) ?_
    | refine q_lenS_map rfl ?_
    | refine q_lenS rfl ?_
    | refine q_nil_drawn trivial ?_
    | (refine q_drawn fun n' hn' => ?_; simp only [List.length_cons, List.length_nil, Nat.zero_add, Nat.reduceAdd] at hn')
    | refine q_iadrS_nat rfl rfl (get_map (by omega)) rfl ?_
    | refine q_ext rfl rfl ?_
    | refine q_mov_out rfl ?_
    )
  refine q_loop (γ := EG) (fun g => [(3, .map k8), (9, .p (.sl nl (l.map Hf.pv))), (10, vi (l.length : Nat)), (11, vi g.i)]) (fun g => ST S g.n [(k8, .map 2 (.p (.int .i64 0)) (mesOf g.g 0) g.cl)])
    (fun g => g.i ≤ l.length ∧ n' ≤ g.n ∧ g.cl = g.g.length ∧ Kept (l.take g.i) g.g) (fun g => l.length - g.i) ⟨0, n', [], 0⟩ (by refine ⟨by simp, by simp, rfl, ⟨fun p => rfl, by simp, by simp⟩⟩) ?_ ?_
  · dsimp only; exact wk_mk hwf (by omega) (by omega) (by first | trivial | (simp only [keysP, and_true]; omega) | (repeat' (first | exact trivial | refine ⟨by omega, ?_⟩ | exact keys_vecB (fun k hk => by have := htk k hk; omega) trivial))) ⟨⟨(by repeat (first | exact get_same | refine get_other (by omega) ?_)), by omega, under_mes⟩, trivial⟩ (by simp only [fitsP]; repeat' (first | exact trivial | refine ⟨?_, ?_⟩ | exact .same trivial | exact wkV_out0 | exact wkV_out_eq hout (by omega) | exact wkV_ptr (by omega) | exact wkV_mapv (by omega) | exact .same (under_mono (by omega) hu.1) | exact .same (under_mono (by omega) hu.2.1) | exact .same (under_mono (by omega) hu.2.2.1) | exact wkV_int (by omega) | exact wkV_int (by simp) | exact .no _ _ _))
  · rintro ⟨i, n0, g, cl⟩ ⟨hi, hn0, hcl, hkp⟩
    dsimp only at *
    have hb1 := fun p => balK_bd p (l.take i)
    have hb2 : ((l.take i).length : Int) ≤ i := by simp; omega
    have hvb : ∀ p, -(i : Int) ≤ valK p g ∧ valK p g ≤ i := fun p => by have := hb1 p; rw [hkp.val]; omega
    have hvc : ∀ q p, -(i : Int) - 1 ≤ valK p (incK q 1 g) ∧ valK p (incK q 1 g) ≤ i + 1 := fun q p => by have := hvb p; rw [valK_inc]; split <;> omega
    repeat' (first
      | refine q_mov_mapv rfl ?_
      | refine q_iadrS_nat rfl rfl (get_map (by omega)) rfl ?_
      | refine q_loadA_row rfl rfl ?_
      | (refine q_look (ks := (l[i]'(by omega)).fk) rfl rfl (by repeat (first | exact get_same | refine get_other (by omega) ?_)) rfl look_mesOf ?_; have hv1 := hvb (l[i]'(by omega)).fk)
      | (refine q_look (ks := (l[i]'(by omega)).tk) rfl rfl (by repeat (first | exact get_same | refine get_other (by omega) ?_)) rfl look_mesOf ?_; have hv2 := hvc (l[i]'(by omega)).fk (l[i]'(by omega)).tk)
      | refine q_ent (ks := (l[i]'(by omega)).fk) rfl rfl (by repeat (first | exact get_same | refine get_other (by omega) ?_)) rfl look_mesOf rfl ?_
      | refine q_ent (ks := (l[i]'(by omega)).tk) rfl rfl (by repeat (first | exact get_same | refine get_other (by omega) ?_)) rfl look_mesOf rfl ?_
      | refine q_set rfl rfl (by repeat (first | exact get_same | refine get_other (by omega) ?_)) (set0 (d := 1) hcl rfl) ?_
      | refine q_set rfl rfl (by repeat (first | exact get_same | refine get_other (by omega) ?_)) (set0 (d := -1) (entC0 1 hcl) (by omega)) ?_
      | refine q_seq ?_
      | (refine q_reg fun n' hn' => ?_; simp only [List.length_cons, List.length_nil, Nat.zero_add, Nat.reduceAdd] at hn')
      | refine q_mov_p rfl ?_
      | refine q_mov_agg rfl ?_
      | refine q_lss rfl rfl (fun h => ?_) (fun h => ?_)
      | refine q_neq rfl rfl (fun h => ?_) (fun h => ?_)
      | refine q_nil_drawn trivial ?_
      | refine q_nil_drawn (sep1 rfl rfl (by omega) trivial) ?_
      | refine q_nil_drawn (sep1 rfl rfl (by omega) (sep1 rfl rfl (by omega) trivial)) ?_
      | refine q_nil ?_
      | refine q_normal ?_
      | refine q_cond_t rfl ?_
      | refine q_cond_f rfl ?_
      | refine q_block ?_
      | refine q_exit ?_
      | refine q_ret ?_
      | refine q_skip ?_
      | refine q_seq_exit ?_
      | refine q_loop_exit ?_
      | refine q_loop_ret ?_
      | refine q_seq_ret ?_
      | refine q_block_normal ?_
      | refine q_block_ret ?_
      | refine q_block_hit ?_
      | refine q_block_miss rfl ?_
      | refine q_add rfl rfl (wrap64 (by omega)) ?_
      | refine q_sub rfl rfl (wrap64 (by omega)) ?_
      | (refine q_alloc fun k hk => ?_)
      | refine q_fadr rfl rfl ?_
      | refine q_fadr_ref rfl rfl ?_
      | refine q_mov_ptr rfl ?_
      | refine q_mov_ref rfl ?_
      | refine q_mov_sl rfl ?_
      | refine q_mov_fn rfl ?_
      | refine q_loadA_ref rfl (Nat.le_of_ble_eq_true rfl) (by first | (simp only [Hf.pv, List.take_zero, List.take_succ_cons, List.take_nil, List.drop_zero, List.drop_succ_cons, List.drop_nil, List.nil_append, List.cons_append, List.append_nil, List.map_cons, List.map_nil, List.replicate_succ, List.replicate_zero, List.flatten_cons, List.flatten_nil, Nat.zero_add, Nat.reduceAdd, chunk]; rfl) | rfl) ?_
      | refine q_loadA rfl (by repeat (first | exact get_same | refine get_other (by omega) ?_)) (Nat.le_of_ble_eq_true rfl) (by first | (simp only [Hf.pv, List.take_zero, List.take_succ_cons, List.take_nil, List.drop_zero, List.drop_succ_cons, List.drop_nil, List.nil_append, List.cons_append, List.append_nil, List.map_cons, List.map_nil, List.replicate_succ, List.replicate_zero, List.flatten_cons, List.flatten_nil, Nat.zero_add, Nat.reduceAdd, chunk]; rfl) | rfl) ?_
      | refine q_store_agg rfl (by repeat (first | exact get_same | refine get_other (by omega) ?_)) rfl rfl (Nat.le_of_ble_eq_true rfl) (by first | (simp only [Hf.pv, List.take_zero, List.take_succ_cons, List.take_nil, List.drop_zero, List.drop_succ_cons, List.drop_nil, List.nil_append, List.cons_append, List.append_nil, List.map_cons, List.map_nil, List.replicate_succ, List.replicate_zero, List.flatten_cons, List.flatten_nil, Nat.zero_add, Nat.reduceAdd, chunk]; rfl) | rfl) ?_
      | refine q_store_p rfl (by repeat (first | exact get_same | refine get_other (by omega) ?_)) rfl (Nat.le_of_ble_eq_true rfl) (by first | (simp only [Hf.pv, List.take_zero, List.take_succ_cons, List.take_nil, List.drop_zero, List.drop_succ_cons, List.drop_nil, List.nil_append, List.cons_append, List.append_nil, List.map_cons, List.map_nil, List.replicate_succ, List.replicate_zero, List.flatten_cons, List.flatten_nil, Nat.zero_add, Nat.reduceAdd, chunk]; rfl) | rfl) ?_
      | refine q_store_sl rfl (by repeat (first | exact get_same | refine get_other (by omega) ?_)) rfl (Nat.le_of_ble_eq_true rfl) (by first | (simp only [Hf.pv, List.take_zero, List.take_succ_cons, List.take_nil, List.drop_zero, List.drop_succ_cons, List.drop_nil, List.nil_append, List.cons_append, List.append_nil, List.map_cons, List.map_nil, List.replicate_succ, List.replicate_zero, List.flatten_cons, List.flatten_nil, Nat.zero_add, Nat.reduceAdd, chunk]; rfl) | rfl) ?_
      | refine q_store_fn rfl (by repeat (first | exact get_same | refine get_other (by omega) ?_)) rfl (Nat.le_of_ble_eq_true rfl) (by first | (simp only [Hf.pv, List.take_zero, List.take_succ_cons, List.take_nil, List.drop_zero, List.drop_succ_cons, List.drop_nil, List.nil_append, List.cons_append, List.append_nil, List.map_cons, List.map_nil, List.replicate_succ, List.replicate_zero, List.flatten_cons, List.flatten_nil, Nat.zero_add, Nat.reduceAdd, chunk]; rfl) | rfl) ?_
      | refine q_lenS_map rfl ?_
      | refine q_lenS rfl ?_
      | refine q_nil_drawn trivial ?_
      | (refine q_drawn fun n' hn' => ?_; simp only [List.length_cons, List.length_nil, Nat.zero_add, Nat.reduceAdd] at hn')
      | refine q_iadrS_nat rfl rfl (get_map (by omega)) rfl ?_
      | refine q_ext rfl rfl ?_
      | refine q_mov_out rfl ?_
      )
    · refine q_loop_normal ⟨i + 1, n', incK (l[i]'(by omega)).tk (-1) (incK (l[i]'(by omega)).fk 1 g), entC (l[i]'(by omega)).tk (mesOf (incK (l[i]'(by omega)).fk 1 g) 0) (entC (l[i]'(by omega)).fk (mesOf g 0) cl)⟩ ⟨by dsimp only; omega, by dsimp only; omega, ?_, ?_⟩ (by dsimp only; omega) ?_
      · dsimp only; exact entC0 (-1) (entC0 1 hcl)
      · dsimp only; rw [take_snoc (by omega)]; exact hkp.step _
      · dsimp only; exact wk_mk hwf (by omega) (by omega) (by first | trivial | (simp only [keysP, and_true]; omega) | (repeat' (first | exact trivial | refine ⟨by omega, ?_⟩ | exact keys_vecB (fun k hk => by have := htk k hk; omega) trivial))) ⟨⟨(by repeat (first | exact get_same | refine get_other (by omega) ?_)), by omega, under_mes⟩, trivial⟩ (by simp only [fitsP]; repeat' (first | exact trivial | refine ⟨?_, ?_⟩ | exact .same trivial | exact wkV_out0 | exact wkV_out_eq hout (by omega) | exact wkV_ptr (by omega) | exact wkV_mapv (by omega) | exact .same (under_mono (by omega) hu.1) | exact .same (under_mono (by omega) hu.2.1) | exact .same (under_mono (by omega) hu.2.2.1) | exact wkV_int (by omega) | exact wkV_int (by simp) | exact .no _ _ _))
    · have htk : l.take i = l := List.take_of_length_le (by omega)
      rw [htk] at hkp
      refine q_range rfl (by repeat (first | exact get_same | refine get_other (by omega) ?_)) fun k31 hk31 => ?_
      repeat' (first
        | refine q_seq ?_
        | (refine q_reg fun n' hn' => ?_; simp only [List.length_cons, List.length_nil, Nat.zero_add, Nat.reduceAdd] at hn')
        | refine q_mov_p rfl ?_
        | refine q_mov_agg rfl ?_
        | refine q_lss rfl rfl (fun h => ?_) (fun h => ?_)
        | refine q_neq rfl rfl (fun h => ?_) (fun h => ?_)
        | refine q_nil_drawn trivial ?_
        | refine q_nil_drawn (sep1 rfl rfl (by omega) trivial) ?_
        | refine q_nil_drawn (sep1 rfl rfl (by omega) (sep1 rfl rfl (by omega) trivial)) ?_
        | refine q_nil ?_
        | refine q_normal ?_
        | refine q_cond_t rfl ?_
        | refine q_cond_f rfl ?_
        | refine q_block ?_
        | refine q_exit ?_
        | refine q_ret ?_
        | refine q_skip ?_
        | refine q_seq_exit ?_
        | refine q_loop_exit ?_
        | refine q_loop_ret ?_
        | refine q_seq_ret ?_
        | refine q_block_normal ?_
        | refine q_block_ret ?_
        | refine q_block_hit ?_
        | refine q_block_miss rfl ?_
        | refine q_add rfl rfl (wrap64 (by omega)) ?_
        | refine q_sub rfl rfl (wrap64 (by omega)) ?_
        | (refine q_alloc fun k hk => ?_)
        | refine q_fadr rfl rfl ?_
        | refine q_fadr_ref rfl rfl ?_
        | refine q_mov_ptr rfl ?_
        | refine q_mov_ref rfl ?_
        | refine q_mov_sl rfl ?_
        | refine q_mov_fn rfl ?_
        | refine q_loadA_ref rfl (Nat.le_of_ble_eq_true rfl) (by first | (simp only [Hf.pv, List.take_zero, List.take_succ_cons, List.take_nil, List.drop_zero, List.drop_succ_cons, List.drop_nil, List.nil_append, List.cons_append, List.append_nil, List.map_cons, List.map_nil, List.replicate_succ, List.replicate_zero, List.flatten_cons, List.flatten_nil, Nat.zero_add, Nat.reduceAdd, chunk]; rfl) | rfl) ?_
        | refine q_loadA rfl (by repeat (first | exact get_same | refine get_other (by omega) ?_)) (Nat.le_of_ble_eq_true rfl) (by first | (simp only [Hf.pv, List.take_zero, List.take_succ_cons, List.take_nil, List.drop_zero, List.drop_succ_cons, List.drop_nil, List.nil_append, List.cons_append, List.append_nil, List.map_cons, List.map_nil, List.replicate_succ, List.replicate_zero, List.flatten_cons, List.flatten_nil, Nat.zero_add, Nat.reduceAdd, chunk]; rfl) | rfl) ?_
        | refine q_store_agg rfl (by repeat (first | exact get_same | refine get_other (by omega) ?_)) rfl rfl (Nat.le_of_ble_eq_true rfl) (by first | (simp only [Hf.pv, List.take_zero, List.take_succ_cons, List.take_nil, List.drop_zero, List.drop_succ_cons, List.drop_nil, List.nil_append, List.cons_append, List.append_nil, List.map_cons, List.map_nil, List.replicate_succ, List.replicate_zero, List.flatten_cons, List.flatten_nil, Nat.zero_add, Nat.reduceAdd, chunk]; rfl) | rfl) ?_
        | refine q_store_p rfl (by repeat (first | exact get_same | refine get_other (by omega) ?_)) rfl (Nat.le_of_ble_eq_true rfl) (by first | (simp only [Hf.pv, List.take_zero, List.take_succ_cons, List.take_nil, List.drop_zero, List.drop_succ_cons, List.drop_nil, List.nil_append, List.cons_append, List.append_nil, List.map_cons, List.map_nil, List.replicate_succ, List.replicate_zero, List.flatten_cons, List.flatten_nil, Nat.zero_add, Nat.reduceAdd, chunk]; rfl) | rfl) ?_
        | refine q_store_sl rfl (by repeat (first | exact get_same | refine get_other (by omega) ?_)) rfl (Nat.le_of_ble_eq_true rfl) (by first | (simp only [Hf.pv, List.take_zero, List.take_succ_cons, List.take_nil, List.drop_zero, List.drop_succ_cons, List.drop_nil, List.nil_append, List.cons_append, List.append_nil, List.map_cons, List.map_nil, List.replicate_succ, List.replicate_zero, List.flatten_cons, List.flatten_nil, Nat.zero_add, Nat.reduceAdd, chunk]; rfl) | rfl) ?_
        | refine q_store_fn rfl (by repeat (first | exact get_same | refine get_other (by omega) ?_)) rfl (Nat.le_of_ble_eq_true rfl) (by first | (simp only [Hf.pv, List.take_zero, List.take_succ_cons, List.take_nil, List.drop_zero, List.drop_succ_cons, List.drop_nil, List.nil_append, List.cons_append, List.append_nil, List.map_cons, List.map_nil, List.replicate_succ, List.replicate_zero, List.flatten_cons, List.flatten_nil, Nat.zero_add, Nat.reduceAdd, chunk]; rfl) | rfl) ?_
        | refine q_lenS_map rfl ?_
        | refine q_lenS rfl ?_
        | refine q_nil_drawn trivial ?_
        | (refine q_drawn fun n' hn' => ?_; simp only [List.length_cons, List.length_nil, Nat.zero_add, Nat.reduceAdd] at hn')
        | refine q_iadrS_nat rfl rfl (get_map (by omega)) rfl ?_
        | refine q_ext rfl rfl ?_
        | refine q_mov_out rfl ?_
        )
      refine q_loop (γ := List Nat) (fun s => [(31, .ptr k31 0)]) (fun s => ST S n' [(k31, .iter k8 cl s cl), (k8, .map 2 (.p (.int .i64 0)) (mesOf g 0) cl)])
        (fun s => ∀ (b : Nat) (hb : b < g.length), b ∈ s → g[b].2 = 0) (fun s => unseen s g.length) [] (by intro b hb h; cases h) ?_ ?_
      · try dsimp only
        exact wk_mk hwf (by omega) (by omega) (by first | trivial | (simp only [keysP, and_true]; omega) | (repeat' (first | exact trivial | refine ⟨by omega, ?_⟩ | exact keys_vecB (fun k hk => by have := htk k hk; omega) trivial))) ⟨⟨(by repeat (first | exact get_same | refine get_other (by omega) ?_)), by omega, (show k8 < _ by omega)⟩, ⟨(by repeat (first | exact get_same | refine get_other (by omega) ?_)), by omega, under_mes⟩, trivial⟩ (by simp only [fitsP]; repeat' (first | exact trivial | refine ⟨?_, ?_⟩ | exact .same trivial | exact wkV_out0 | exact wkV_out_eq hout (by omega) | exact wkV_ptr (by omega) | exact wkV_mapv (by omega) | exact .same (under_mono (by omega) hu.1) | exact .same (under_mono (by omega) hu.2.1) | exact .same (under_mono (by omega) hu.2.2.1) | exact wkV_int (by omega) | exact wkV_int (by simp) | exact .no _ _ _))
      · rintro s hs
        repeat' (first
          | refine q_seq ?_
          | (refine q_reg fun n' hn' => ?_; simp only [List.length_cons, List.length_nil, Nat.zero_add, Nat.reduceAdd] at hn')
          | refine q_mov_p rfl ?_
          | refine q_mov_agg rfl ?_
          | refine q_lss rfl rfl (fun h => ?_) (fun h => ?_)
          | refine q_neq rfl rfl (fun h => ?_) (fun h => ?_)
          | refine q_nil_drawn trivial ?_
          | refine q_nil_drawn (sep1 rfl rfl (by omega) trivial) ?_
          | refine q_nil_drawn (sep1 rfl rfl (by omega) (sep1 rfl rfl (by omega) trivial)) ?_
          | refine q_nil ?_
          | refine q_normal ?_
          | refine q_cond_t rfl ?_
          | refine q_cond_f rfl ?_
          | refine q_block ?_
          | refine q_exit ?_
          | refine q_ret ?_
          | refine q_skip ?_
          | refine q_seq_exit ?_
          | refine q_loop_exit ?_
          | refine q_loop_ret ?_
          | refine q_seq_ret ?_
          | refine q_block_normal ?_
          | refine q_block_ret ?_
          | refine q_block_hit ?_
          | refine q_block_miss rfl ?_
          | refine q_add rfl rfl (wrap64 (by omega)) ?_
          | refine q_sub rfl rfl (wrap64 (by omega)) ?_
          | (refine q_alloc fun k hk => ?_)
          | refine q_fadr rfl rfl ?_
          | refine q_fadr_ref rfl rfl ?_
          | refine q_mov_ptr rfl ?_
          | refine q_mov_ref rfl ?_
          | refine q_mov_sl rfl ?_
          | refine q_mov_fn rfl ?_
          | refine q_loadA_ref rfl (Nat.le_of_ble_eq_true rfl) (by first | (simp only [Hf.pv, List.take_zero, List.take_succ_cons, List.take_nil, List.drop_zero, List.drop_succ_cons, List.drop_nil, List.nil_append, List.cons_append, List.append_nil, List.map_cons, List.map_nil, List.replicate_succ, List.replicate_zero, List.flatten_cons, List.flatten_nil, Nat.zero_add, Nat.reduceAdd, chunk]; rfl) | rfl) ?_
          | refine q_loadA rfl (by repeat (first | exact get_same | refine get_other (by omega) ?_)) (Nat.le_of_ble_eq_true rfl) (by first | (simp only [Hf.pv, List.take_zero, List.take_succ_cons, List.take_nil, List.drop_zero, List.drop_succ_cons, List.drop_nil, List.nil_append, List.cons_append, List.append_nil, List.map_cons, List.map_nil, List.replicate_succ, List.replicate_zero, List.flatten_cons, List.flatten_nil, Nat.zero_add, Nat.reduceAdd, chunk]; rfl) | rfl) ?_
          | refine q_store_agg rfl (by repeat (first | exact get_same | refine get_other (by omega) ?_)) rfl rfl (Nat.le_of_ble_eq_true rfl) (by first | (simp only [Hf.pv, List.take_zero, List.take_succ_cons, List.take_nil, List.drop_zero, List.drop_succ_cons, List.drop_nil, List.nil_append, List.cons_append, List.append_nil, List.map_cons, List.map_nil, List.replicate_succ, List.replicate_zero, List.flatten_cons, List.flatten_nil, Nat.zero_add, Nat.reduceAdd, chunk]; rfl) | rfl) ?_
          | refine q_store_p rfl (by repeat (first | exact get_same | refine get_other (by omega) ?_)) rfl (Nat.le_of_ble_eq_true rfl) (by first | (simp only [Hf.pv, List.take_zero, List.take_succ_cons, List.take_nil, List.drop_zero, List.drop_succ_cons, List.drop_nil, List.nil_append, List.cons_append, List.append_nil, List.map_cons, List.map_nil, List.replicate_succ, List.replicate_zero, List.flatten_cons, List.flatten_nil, Nat.zero_add, Nat.reduceAdd, chunk]; rfl) | rfl) ?_
          | refine q_store_sl rfl (by repeat (first | exact get_same | refine get_other (by omega) ?_)) rfl (Nat.le_of_ble_eq_true rfl) (by first | (simp only [Hf.pv, List.take_zero, List.take_succ_cons, List.take_nil, List.drop_zero, List.drop_succ_cons, List.drop_nil, List.nil_append, List.cons_append, List.append_nil, List.map_cons, List.map_nil, List.replicate_succ, List.replicate_zero, List.flatten_cons, List.flatten_nil, Nat.zero_add, Nat.reduceAdd, chunk]; rfl) | rfl) ?_
          | refine q_store_fn rfl (by repeat (first | exact get_same | refine get_other (by omega) ?_)) rfl (Nat.le_of_ble_eq_true rfl) (by first | (simp only [Hf.pv, List.take_zero, List.take_succ_cons, List.take_nil, List.drop_zero, List.drop_succ_cons, List.drop_nil, List.nil_append, List.cons_append, List.append_nil, List.map_cons, List.map_nil, List.replicate_succ, List.replicate_zero, List.flatten_cons, List.flatten_nil, Nat.zero_add, Nat.reduceAdd, chunk]; rfl) | rfl) ?_
          | refine q_lenS_map rfl ?_
          | refine q_lenS rfl ?_
          | refine q_nil_drawn trivial ?_
          | (refine q_drawn fun n' hn' => ?_; simp only [List.length_cons, List.length_nil, Nat.zero_add, Nat.reduceAdd] at hn')
          | refine q_iadrS_nat rfl rfl (get_map (by omega)) rfl ?_
          | refine q_ext rfl rfl ?_
          | refine q_mov_out rfl ?_
          )
        refine q_nxt rfl (by repeat (first | exact get_same | refine get_other (by omega) ?_)) (by repeat (first | exact get_same | refine get_other (by omega) ?_)) (fun e he => by obtain ⟨j, hj, rfl⟩ := mesOf_mem he; dsimp only; omega) (fun e he hns => ?_) (fun hall => ?_)
        · obtain ⟨j, hj, rfl⟩ := mesOf_mem he
          dsimp only at hns ⊢
          repeat' (first
            | refine q_entry rfl (by repeat (first | exact get_same | refine get_other (by omega) ?_)) (by repeat (first | exact get_same | refine get_other (by omega) ?_)) (find0 hj) ?_
            | refine q_seq ?_
            | (refine q_reg fun n' hn' => ?_; simp only [List.length_cons, List.length_nil, Nat.zero_add, Nat.reduceAdd] at hn')
            | refine q_mov_p rfl ?_
            | refine q_mov_agg rfl ?_
            | refine q_lss rfl rfl (fun h => ?_) (fun h => ?_)
            | refine q_neq rfl rfl (fun h => ?_) (fun h => ?_)
            | refine q_nil_drawn trivial ?_
            | refine q_nil_drawn (sep1 rfl rfl (by omega) trivial) ?_
            | refine q_nil_drawn (sep1 rfl rfl (by omega) (sep1 rfl rfl (by omega) trivial)) ?_
            | refine q_nil ?_
            | refine q_normal ?_
            | refine q_cond_t rfl ?_
            | refine q_cond_f rfl ?_
            | refine q_block ?_
            | refine q_exit ?_
            | refine q_ret ?_
            | refine q_skip ?_
            | refine q_seq_exit ?_
            | refine q_loop_exit ?_
            | refine q_loop_ret ?_
            | refine q_seq_ret ?_
            | refine q_block_normal ?_
            | refine q_block_ret ?_
            | refine q_block_hit ?_
            | refine q_block_miss rfl ?_
            | refine q_add rfl rfl (wrap64 (by omega)) ?_
            | refine q_sub rfl rfl (wrap64 (by omega)) ?_
            | (refine q_alloc fun k hk => ?_)
            | refine q_fadr rfl rfl ?_
            | refine q_fadr_ref rfl rfl ?_
            | refine q_mov_ptr rfl ?_
            | refine q_mov_ref rfl ?_
            | refine q_mov_sl rfl ?_
            | refine q_mov_fn rfl ?_
            | refine q_loadA_ref rfl (Nat.le_of_ble_eq_true rfl) (by first | (simp only [Hf.pv, List.take_zero, List.take_succ_cons, List.take_nil, List.drop_zero, List.drop_succ_cons, List.drop_nil, List.nil_append, List.cons_append, List.append_nil, List.map_cons, List.map_nil, List.replicate_succ, List.replicate_zero, List.flatten_cons, List.flatten_nil, Nat.zero_add, Nat.reduceAdd, chunk]; rfl) | rfl) ?_
            | refine q_loadA rfl (by repeat (first | exact get_same | refine get_other (by omega) ?_)) (Nat.le_of_ble_eq_true rfl) (by first | (simp only [Hf.pv, List.take_zero, List.take_succ_cons, List.take_nil, List.drop_zero, List.drop_succ_cons, List.drop_nil, List.nil_append, List.cons_append, List.append_nil, List.map_cons, List.map_nil, List.replicate_succ, List.replicate_zero, List.flatten_cons, List.flatten_nil, Nat.zero_add, Nat.reduceAdd, chunk]; rfl) | rfl) ?_
            | refine q_store_agg rfl (by repeat (first | exact get_same | refine get_other (by omega) ?_)) rfl rfl (Nat.le_of_ble_eq_true rfl) (by first | (simp only [Hf.pv, List.take_zero, List.take_succ_cons, List.take_nil, List.drop_zero, List.drop_succ_cons, List.drop_nil, List.nil_append, List.cons_append, List.append_nil, List.map_cons, List.map_nil, List.replicate_succ, List.replicate_zero, List.flatten_cons, List.flatten_nil, Nat.zero_add, Nat.reduceAdd, chunk]; rfl) | rfl) ?_
            | refine q_store_p rfl (by repeat (first | exact get_same | refine get_other (by omega) ?_)) rfl (Nat.le_of_ble_eq_true rfl) (by first | (simp only [Hf.pv, List.take_zero, List.take_succ_cons, List.take_nil, List.drop_zero, List.drop_succ_cons, List.drop_nil, List.nil_append, List.cons_append, List.append_nil, List.map_cons, List.map_nil, List.replicate_succ, List.replicate_zero, List.flatten_cons, List.flatten_nil, Nat.zero_add, Nat.reduceAdd, chunk]; rfl) | rfl) ?_
            | refine q_store_sl rfl (by repeat (first | exact get_same | refine get_other (by omega) ?_)) rfl (Nat.le_of_ble_eq_true rfl) (by first | (simp only [Hf.pv, List.take_zero, List.take_succ_cons, List.take_nil, List.drop_zero, List.drop_succ_cons, List.drop_nil, List.nil_append, List.cons_append, List.append_nil, List.map_cons, List.map_nil, List.replicate_succ, List.replicate_zero, List.flatten_cons, List.flatten_nil, Nat.zero_add, Nat.reduceAdd, chunk]; rfl) | rfl) ?_
            | refine q_store_fn rfl (by repeat (first | exact get_same | refine get_other (by omega) ?_)) rfl (Nat.le_of_ble_eq_true rfl) (by first | (simp only [Hf.pv, List.take_zero, List.take_succ_cons, List.take_nil, List.drop_zero, List.drop_succ_cons, List.drop_nil, List.nil_append, List.cons_append, List.append_nil, List.map_cons, List.map_nil, List.replicate_succ, List.replicate_zero, List.flatten_cons, List.flatten_nil, Nat.zero_add, Nat.reduceAdd, chunk]; rfl) | rfl) ?_
            | refine q_lenS_map rfl ?_
            | refine q_lenS rfl ?_
            | refine q_nil_drawn trivial ?_
            | (refine q_drawn fun n' hn' => ?_; simp only [List.length_cons, List.length_nil, Nat.zero_add, Nat.reduceAdd] at hn')
            | refine q_iadrS_nat rfl rfl (get_map (by omega)) rfl ?_
            | refine q_ext rfl rfl ?_
            | refine q_mov_out rfl ?_
            )
          · (refine q_fin_bool hwf rfl ?_ ?_ ?_; (focus (rw [hkp.no hj h])); (focus (first | trivial | (simp only [keysP, and_true]; omega) | (repeat' (first | exact trivial | refine ⟨by omega, ?_⟩ | exact keys_vecB (fun k hk => by have := htk k hk; omega) trivial)))); omega)
          · refine q_loop_normal (s ++ [0 + j]) ?_ (unseen_lt hns _ (by omega)) ?_
            · intro b hb hm
              rcases List.mem_append.1 hm with hm | hm
              · exact hs b hb hm
              · have : b = j := by simpa using hm
                subst this; exact h
            · exact wk_mk hwf (by omega) (by omega) (by first | trivial | (simp only [keysP, and_true]; omega) | (repeat' (first | exact trivial | refine ⟨by omega, ?_⟩ | exact keys_vecB (fun k hk => by have := htk k hk; omega) trivial))) ⟨⟨(by repeat (first | exact get_same | refine get_other (by omega) ?_)), by omega, (show k8 < _ by omega)⟩, ⟨(by repeat (first | exact get_same | refine get_other (by omega) ?_)), by omega, under_mes⟩, trivial⟩ (by simp only [fitsP]; repeat' (first | exact trivial | refine ⟨?_, ?_⟩ | exact .same trivial | exact wkV_out0 | exact wkV_out_eq hout (by omega) | exact wkV_ptr (by omega) | exact wkV_mapv (by omega) | exact .same (under_mono (by omega) hu.1) | exact .same (under_mono (by omega) hu.2.1) | exact .same (under_mono (by omega) hu.2.2.1) | exact wkV_int (by omega) | exact wkV_int (by simp) | exact .no _ _ _))
        · have hyes := hkp.yes (fun j hj => hs j hj (by have := hall _ (mesOf_get (b := 0) hj) (by dsimp only; omega); dsimp only at this; rwa [Nat.zero_add] at this))
          repeat' (first
            | refine q_seq ?_
            | (refine q_reg fun n' hn' => ?_; simp only [List.length_cons, List.length_nil, Nat.zero_add, Nat.reduceAdd] at hn')
            | refine q_mov_p rfl ?_
            | refine q_mov_agg rfl ?_
            | refine q_lss rfl rfl (fun h => ?_) (fun h => ?_)
            | refine q_neq rfl rfl (fun h => ?_) (fun h => ?_)
            | refine q_nil_drawn trivial ?_
            | refine q_nil_drawn (sep1 rfl rfl (by omega) trivial) ?_
            | refine q_nil_drawn (sep1 rfl rfl (by omega) (sep1 rfl rfl (by omega) trivial)) ?_
            | refine q_nil ?_
            | refine q_normal ?_
            | refine q_cond_t rfl ?_
            | refine q_cond_f rfl ?_
            | refine q_block ?_
            | refine q_exit ?_
            | refine q_ret ?_
            | refine q_skip ?_
            | refine q_seq_exit ?_
            | refine q_loop_exit ?_
            | refine q_loop_ret ?_
            | refine q_seq_ret ?_
            | refine q_block_normal ?_
            | refine q_block_ret ?_
            | refine q_block_hit ?_
            | refine q_block_miss rfl ?_
            | refine q_add rfl rfl (wrap64 (by omega)) ?_
            | refine q_sub rfl rfl (wrap64 (by omega)) ?_
            | (refine q_alloc fun k hk => ?_)
            | refine q_fadr rfl rfl ?_
            | refine q_fadr_ref rfl rfl ?_
            | refine q_mov_ptr rfl ?_
            | refine q_mov_ref rfl ?_
            | refine q_mov_sl rfl ?_
            | refine q_mov_fn rfl ?_
            | refine q_loadA_ref rfl (Nat.le_of_ble_eq_true rfl) (by first | (simp only [Hf.pv, List.take_zero, List.take_succ_cons, List.take_nil, List.drop_zero, List.drop_succ_cons, List.drop_nil, List.nil_append, List.cons_append, List.append_nil, List.map_cons, List.map_nil, List.replicate_succ, List.replicate_zero, List.flatten_cons, List.flatten_nil, Nat.zero_add, Nat.reduceAdd, chunk]; rfl) | rfl) ?_
            | refine q_loadA rfl (by repeat (first | exact get_same | refine get_other (by omega) ?_)) (Nat.le_of_ble_eq_true rfl) (by first | (simp only [Hf.pv, List.take_zero, List.take_succ_cons, List.take_nil, List.drop_zero, List.drop_succ_cons, List.drop_nil, List.nil_append, List.cons_append, List.append_nil, List.map_cons, List.map_nil, List.replicate_succ, List.replicate_zero, List.flatten_cons, List.flatten_nil, Nat.zero_add, Nat.reduceAdd, chunk]; rfl) | rfl) ?_
            | refine q_store_agg rfl (by repeat (first | exact get_same | refine get_other (by omega) ?_)) rfl rfl (Nat.le_of_ble_eq_true rfl) (by first | (simp only [Hf.pv, List.take_zero, List.take_succ_cons, List.take_nil, List.drop_zero, List.drop_succ_cons, List.drop_nil, List.nil_append, List.cons_append, List.append_nil, List.map_cons, List.map_nil, List.replicate_succ, List.replicate_zero, List.flatten_cons, List.flatten_nil, Nat.zero_add, Nat.reduceAdd, chunk]; rfl) | rfl) ?_
            | refine q_store_p rfl (by repeat (first | exact get_same | refine get_other (by omega) ?_)) rfl (Nat.le_of_ble_eq_true rfl) (by first | (simp only [Hf.pv, List.take_zero, List.take_succ_cons, List.take_nil, List.drop_zero, List.drop_succ_cons, List.drop_nil, List.nil_append, List.cons_append, List.append_nil, List.map_cons, List.map_nil, List.replicate_succ, List.replicate_zero, List.flatten_cons, List.flatten_nil, Nat.zero_add, Nat.reduceAdd, chunk]; rfl) | rfl) ?_
            | refine q_store_sl rfl (by repeat (first | exact get_same | refine get_other (by omega) ?_)) rfl (Nat.le_of_ble_eq_true rfl) (by first | (simp only [Hf.pv, List.take_zero, List.take_succ_cons, List.take_nil, List.drop_zero, List.drop_succ_cons, List.drop_nil, List.nil_append, List.cons_append, List.append_nil, List.map_cons, List.map_nil, List.replicate_succ, List.replicate_zero, List.flatten_cons, List.flatten_nil, Nat.zero_add, Nat.reduceAdd, chunk]; rfl) | rfl) ?_
            | refine q_store_fn rfl (by repeat (first | exact get_same | refine get_other (by omega) ?_)) rfl (Nat.le_of_ble_eq_true rfl) (by first | (simp only [Hf.pv, List.take_zero, List.take_succ_cons, List.take_nil, List.drop_zero, List.drop_succ_cons, List.drop_nil, List.nil_append, List.cons_append, List.append_nil, List.map_cons, List.map_nil, List.replicate_succ, List.replicate_zero, List.flatten_cons, List.flatten_nil, Nat.zero_add, Nat.reduceAdd, chunk]; rfl) | rfl) ?_
            | refine q_lenS_map rfl ?_
            | refine q_lenS rfl ?_
            | refine q_nil_drawn trivial ?_
            | (refine q_drawn fun n' hn' => ?_; simp only [List.length_cons, List.length_nil, Nat.zero_add, Nat.reduceAdd] at hn')
            | refine q_iadrS_nat rfl rfl (get_map (by omega)) rfl ?_
            | refine q_ext rfl rfl ?_
            | refine q_mov_out rfl ?_
            )
          (refine q_fin_bool hwf rfl ?_ ?_ ?_; (focus (rw [hyes])); (focus (first | trivial | (simp only [keysP, and_true]; omega) | (repeat' (first | exact trivial | refine ⟨by omega, ?_⟩ | exact keys_vecB (fun k hk => by have := htk k hk; omega) trivial)))); omega)
end Go.Proofs.Ytakjakmhecfmiaa

