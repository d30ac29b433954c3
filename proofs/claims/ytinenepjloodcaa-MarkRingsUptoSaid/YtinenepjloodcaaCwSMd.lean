/- CONTRACTS: a job's edges, and how often rings go around a place. -/
import Derived.Test.YtinenepjloodcaaCwSMc
import Derived.Test.YtinenepjloodcaaCwS13
import Derived.Test.YtinenepjloodcaaCwW
set_option linter.unusedVariables false
set_option linter.unusedSimpArgs false
set_option maxHeartbeats 8000000
set_option maxRecDepth 20000
namespace Go.Proofs.Ytinenepjloodcaa
open Go.Cw
attribute [local irreducible] aops awp seqQ blockQ seqC loopQ endQ getB outV vecB

theorem spec112 (S : St) (x y : Int) (hx : -1073741824 ≤ x ∧ x ≤ 1073741824) (hy : -1073741824 ≤ y ∧ y ≤ 1073741824) : ASpec Try.prog 42 [.agg [vi x, vi y]] S (.agg [vi (2 * x), vi (2 * y)]) S := by
  refine q_fun hmix c112 rfl (Nat.le_of_ble_eq_true rfl) fun hwf hu => ?_
  repeat' (first
    | (refine i_ops ?_; first
      | (refine i_op ?_; first
        | (refine i_load1 ?_; first | (apply q_load1_ref; (focus exact rfl); (focus exact rfl)) | (apply q_load1; (focus exact rfl); (focus (repeat (first | exact get_same | refine get_other (by omega) ?_))); (focus exact rfl)))
        | (refine i_store ?_; first | (apply q_store_agg; (focus exact rfl); (focus (repeat (first | exact get_same | refine get_other (by omega) ?_))); (focus exact rfl); (focus exact rfl); (focus exact Nat.le_of_ble_eq_true rfl); (focus (first | (simp only [Rg.pv, Pt.pv, Eg.pv, List.take_zero, List.take_succ_cons, List.take_nil, List.drop_zero, List.drop_succ_cons, List.drop_nil, List.nil_append, List.cons_append, List.append_nil, List.map_cons, List.map_nil, List.replicate_succ, List.replicate_zero, List.flatten_cons, List.flatten_nil, Nat.zero_add, Nat.reduceAdd, chunk]; rfl) | rfl))) | (apply q_store_p; (focus exact rfl); (focus (repeat (first | exact get_same | refine get_other (by omega) ?_))); (focus exact rfl); (focus exact Nat.le_of_ble_eq_true rfl); (focus (first | (simp only [Rg.pv, Pt.pv, Eg.pv, List.take_zero, List.take_succ_cons, List.take_nil, List.drop_zero, List.drop_succ_cons, List.drop_nil, List.nil_append, List.cons_append, List.append_nil, List.map_cons, List.map_nil, List.replicate_succ, List.replicate_zero, List.flatten_cons, List.flatten_nil, Nat.zero_add, Nat.reduceAdd, chunk]; rfl) | rfl))) | (apply q_store_sl; (focus exact rfl); (focus (repeat (first | exact get_same | refine get_other (by omega) ?_))); (focus exact rfl); (focus exact Nat.le_of_ble_eq_true rfl); (focus (first | (simp only [Rg.pv, Pt.pv, Eg.pv, List.take_zero, List.take_succ_cons, List.take_nil, List.drop_zero, List.drop_succ_cons, List.drop_nil, List.nil_append, List.cons_append, List.append_nil, List.map_cons, List.map_nil, List.replicate_succ, List.replicate_zero, List.flatten_cons, List.flatten_nil, Nat.zero_add, Nat.reduceAdd, chunk]; rfl) | rfl))) | (apply q_store_fn; (focus exact rfl); (focus (repeat (first | exact get_same | refine get_other (by omega) ?_))); (focus exact rfl); (focus exact Nat.le_of_ble_eq_true rfl); (focus (first | (simp only [Rg.pv, Pt.pv, Eg.pv, List.take_zero, List.take_succ_cons, List.take_nil, List.drop_zero, List.drop_succ_cons, List.drop_nil, List.nil_append, List.cons_append, List.append_nil, List.map_cons, List.map_nil, List.replicate_succ, List.replicate_zero, List.flatten_cons, List.flatten_nil, Nat.zero_add, Nat.reduceAdd, chunk]; rfl) | rfl))))
        | (refine i_fadr ?_; first | refine q_fadr rfl rfl ?_ | refine q_fadr_ref rfl rfl ?_)
        | (refine i_alloc ?_; first | (refine q_alloc fun k hk => ?_))
        | (refine i_box ?_; first | (refine q_box_agg rfl fun k hk => ?_) | (refine q_box_p rfl fun k hk => ?_) | (refine q_box_sl rfl fun k hk => ?_) | (refine q_box_fn rfl fun k hk => ?_))
        | (refine i_build ?_; first | (apply q_build; (focus (repeat' (first | exact fill_nil | (apply fill_p rfl (Nat.le_of_ble_eq_true rfl); (focus (first | (simp only [Rg.pv, Pt.pv, Eg.pv, List.take_zero, List.take_succ_cons, List.take_nil, List.drop_zero, List.drop_succ_cons, List.drop_nil, List.nil_append, List.cons_append, List.append_nil, List.map_cons, List.map_nil, List.replicate_succ, List.replicate_zero, List.flatten_cons, List.flatten_nil, Nat.zero_add, Nat.reduceAdd, chunk]; rfl) | rfl))) | (apply fill_agg; (focus rfl); (focus rfl); (focus exact Nat.le_of_ble_eq_true rfl); (focus (first | (simp only [Rg.pv, Pt.pv, Eg.pv, List.take_zero, List.take_succ_cons, List.take_nil, List.drop_zero, List.drop_succ_cons, List.drop_nil, List.nil_append, List.cons_append, List.append_nil, List.map_cons, List.map_nil, List.replicate_succ, List.replicate_zero, List.flatten_cons, List.flatten_nil, Nat.zero_add, Nat.reduceAdd, chunk]; rfl) | rfl))) | (apply fill_sl rfl (Nat.le_of_ble_eq_true rfl); (focus (first | (simp only [Rg.pv, Pt.pv, Eg.pv, List.take_zero, List.take_succ_cons, List.take_nil, List.drop_zero, List.drop_succ_cons, List.drop_nil, List.nil_append, List.cons_append, List.append_nil, List.map_cons, List.map_nil, List.replicate_succ, List.replicate_zero, List.flatten_cons, List.flatten_nil, Nat.zero_add, Nat.reduceAdd, chunk]; rfl) | rfl))) | (apply fill_fn rfl (Nat.le_of_ble_eq_true rfl); (focus (first | (simp only [Rg.pv, Pt.pv, Eg.pv, List.take_zero, List.take_succ_cons, List.take_nil, List.drop_zero, List.drop_succ_cons, List.drop_nil, List.nil_append, List.cons_append, List.append_nil, List.map_cons, List.map_nil, List.replicate_succ, List.replicate_zero, List.flatten_cons, List.flatten_nil, Nat.zero_add, Nat.reduceAdd, chunk]; rfl) | rfl))) | (apply fill_ptr rfl (Nat.le_of_ble_eq_true rfl); (focus (first | (simp only [Rg.pv, Pt.pv, Eg.pv, List.take_zero, List.take_succ_cons, List.take_nil, List.drop_zero, List.drop_succ_cons, List.drop_nil, List.nil_append, List.cons_append, List.append_nil, List.map_cons, List.map_nil, List.replicate_succ, List.replicate_zero, List.flatten_cons, List.flatten_nil, Nat.zero_add, Nat.reduceAdd, chunk]; rfl) | rfl))))))))
        | (refine i_arith _ ?_; first
          | (refine i_arith .mul ?_; first | (apply q_mul; (focus exact rfl); (focus exact rfl); (focus exact wrap64 (by omega))) | (refine q_mul31 rfl rfl (by omega) (by omega) (fun hm1 hm2 => ?_))))))
    | refine q_nil ?_
    | (refine i_awp ?_; first | refine q_seq ?_ | (refine q_reg fun n' hn' => ?_; simp only [List.length_cons, List.length_nil, Nat.zero_add, Nat.reduceAdd] at hn') | refine q_ret ?_)
    | refine q_normal ?_
    | refine q_seq_ret ?_
    )
  all_goals (refine q_fin hwf (res_cons (res_cellA rfl (by repeat (first | exact get_same | refine get_other (by omega) ?_)) (Nat.le_of_ble_eq_true rfl) (by first | (simp only [Rg.pv, Pt.pv, Eg.pv, List.take_zero, List.take_succ_cons, List.take_nil, List.drop_zero, List.drop_succ_cons, List.drop_nil, List.nil_append, List.cons_append, List.append_nil, List.map_cons, List.map_nil, List.replicate_succ, List.replicate_zero, List.flatten_cons, List.flatten_nil, Nat.zero_add, Nat.reduceAdd, chunk]; rfl) | rfl)) res_nil) ?_ ?_ ?_ ?_; (focus (rfl)); (focus (simp only [AV.under, AV.underL, Tok.under, and_self])); (focus (first | trivial | (simp only [keysP, and_true]; omega) | (repeat' (first | exact trivial | refine ⟨by omega, ?_⟩ | refine keys_vecB (fun k hk => by have := htk k hk; omega) ?_)))); omega)

def Eg.p2 (e : Eg) : Pt := ⟨2 * e.px, 2 * e.py⟩
def Eg.q2 (e : Eg) : Pt := ⟨2 * e.qx, 2 * e.qy⟩
def onE (o : Pt) (e : Eg) : Bool := onP o e.p2 e.q2
def stU (o : Pt) (e : Eg) : Int := (if o.x < 2 * e.px ∧ 2 * e.qx ≤ o.x ∧ 0 < cross e.p2 e.q2 o then 1 else 0) - (if o.x < 2 * e.qx ∧ 2 * e.px ≤ o.x ∧ cross e.p2 e.q2 o < 0 then 1 else 0)
def sumU (o : Pt) : List Eg → Int
  | [] => 0
  | e :: l => stU o e + sumU o l
def windE (o : Pt) (l : List Eg) : Int × Bool := if l.any (onE o) then (0, true) else (sumU o l, false)
def Eg.near (e : Eg) : Prop := (-67108864 ≤ e.px ∧ e.px ≤ 67108864) ∧ (-67108864 ≤ e.py ∧ e.py ≤ 67108864) ∧ (-67108864 ≤ e.qx ∧ e.qx ≤ 67108864) ∧ (-67108864 ≤ e.qy ∧ e.qy ≤ 67108864)
theorem spec106E (S : St) (x y : Int) (e : Eg) : ASpec Try.prog 35 [.agg [vi x, vi y], .agg [vi (2 * e.px), vi (2 * e.py)], .agg [vi (2 * e.qx), vi (2 * e.qy)]] S (vb (onE ⟨x, y⟩ e)) S := by
  have := spec106 S x y (2 * e.px) (2 * e.py) (2 * e.qx) (2 * e.qy)
  rw [onR_eq] at this; exact this
theorem spec113E (S : St) (x y : Int) (e : Eg) : ASpec Try.prog 43 [.agg [vi (2 * e.px), vi (2 * e.py)], .agg [vi (2 * e.qx), vi (2 * e.qy)], .agg [vi x, vi y]] S (vi (cross e.p2 e.q2 ⟨x, y⟩)) S := spec113 S _ _ _ _ _ _

structure UG where
  i : Nat
  n : Nat
  s : Int

theorem spec43 (S : St) (nl : Bool) (rs : List Rg) (x y : Int) (hl : rs.length ≤ 4611686018427387904) (ht : totR rs * 40 ≤ 140737488355328) (hb : ∀ e ∈ edgE 0 rs, e.near) :
    ASpec Try.prog 19 [.p (.sl nl (rs.map Rg.pv)), vi x, vi y] S (.tup [vi (windE ⟨x, y⟩ (edgE 0 rs)).1, vb (windE ⟨x, y⟩ (edgE 0 rs)).2]) S := by
  have hEl := edgE_len 0 rs
  refine q_fun hmix c43 rfl (Nat.le_of_ble_eq_true rfl) fun hwf hu => ?_
  repeat' (first
    | (refine i_ops ?_; first
      | (refine i_callF 39 ?_; refine q_callF (spec110 nl rs 0 hl ht) (fun k9 hk9 => ?_))
      | (refine i_op ?_; first
        | (refine i_mov ?_; first | refine q_mov_p rfl ?_ | refine q_mov_agg rfl ?_ | refine q_mov_ptr rfl ?_ | refine q_mov_ref rfl ?_ | refine q_mov_sl rfl ?_ | refine q_mov_fn rfl ?_ | refine q_mov_out rfl ?_ | refine q_mov_tup rfl ?_)
        | (refine i_load1 ?_; first | (apply q_load1_ref; (focus exact rfl); (focus exact rfl)) | (apply q_load1; (focus exact rfl); (focus (repeat (first | exact get_same | refine get_other (by omega) ?_))); (focus exact rfl)))
        | (refine i_loadA ?_; first | (apply q_loadA_ref; (focus exact rfl); (focus exact Nat.le_of_ble_eq_true rfl); (focus (first | (simp only [Rg.pv, Pt.pv, Eg.pv, List.take_zero, List.take_succ_cons, List.take_nil, List.drop_zero, List.drop_succ_cons, List.drop_nil, List.nil_append, List.cons_append, List.append_nil, List.map_cons, List.map_nil, List.replicate_succ, List.replicate_zero, List.flatten_cons, List.flatten_nil, Nat.zero_add, Nat.reduceAdd, chunk]; rfl) | rfl))) | (apply q_loadA; (focus exact rfl); (focus (repeat (first | exact get_same | refine get_other (by omega) ?_))); (focus exact Nat.le_of_ble_eq_true rfl); (focus (first | (simp only [Rg.pv, Pt.pv, Eg.pv, List.take_zero, List.take_succ_cons, List.take_nil, List.drop_zero, List.drop_succ_cons, List.drop_nil, List.nil_append, List.cons_append, List.append_nil, List.map_cons, List.map_nil, List.replicate_succ, List.replicate_zero, List.flatten_cons, List.flatten_nil, Nat.zero_add, Nat.reduceAdd, chunk]; rfl) | rfl))))
        | (refine i_store ?_; first | (apply q_store_agg; (focus exact rfl); (focus (repeat (first | exact get_same | refine get_other (by omega) ?_))); (focus exact rfl); (focus exact rfl); (focus exact Nat.le_of_ble_eq_true rfl); (focus (first | (simp only [Rg.pv, Pt.pv, Eg.pv, List.take_zero, List.take_succ_cons, List.take_nil, List.drop_zero, List.drop_succ_cons, List.drop_nil, List.nil_append, List.cons_append, List.append_nil, List.map_cons, List.map_nil, List.replicate_succ, List.replicate_zero, List.flatten_cons, List.flatten_nil, Nat.zero_add, Nat.reduceAdd, chunk]; rfl) | rfl))) | (apply q_store_p; (focus exact rfl); (focus (repeat (first | exact get_same | refine get_other (by omega) ?_))); (focus exact rfl); (focus exact Nat.le_of_ble_eq_true rfl); (focus (first | (simp only [Rg.pv, Pt.pv, Eg.pv, List.take_zero, List.take_succ_cons, List.take_nil, List.drop_zero, List.drop_succ_cons, List.drop_nil, List.nil_append, List.cons_append, List.append_nil, List.map_cons, List.map_nil, List.replicate_succ, List.replicate_zero, List.flatten_cons, List.flatten_nil, Nat.zero_add, Nat.reduceAdd, chunk]; rfl) | rfl))) | (apply q_store_sl; (focus exact rfl); (focus (repeat (first | exact get_same | refine get_other (by omega) ?_))); (focus exact rfl); (focus exact Nat.le_of_ble_eq_true rfl); (focus (first | (simp only [Rg.pv, Pt.pv, Eg.pv, List.take_zero, List.take_succ_cons, List.take_nil, List.drop_zero, List.drop_succ_cons, List.drop_nil, List.nil_append, List.cons_append, List.append_nil, List.map_cons, List.map_nil, List.replicate_succ, List.replicate_zero, List.flatten_cons, List.flatten_nil, Nat.zero_add, Nat.reduceAdd, chunk]; rfl) | rfl))) | (apply q_store_fn; (focus exact rfl); (focus (repeat (first | exact get_same | refine get_other (by omega) ?_))); (focus exact rfl); (focus exact Nat.le_of_ble_eq_true rfl); (focus (first | (simp only [Rg.pv, Pt.pv, Eg.pv, List.take_zero, List.take_succ_cons, List.take_nil, List.drop_zero, List.drop_succ_cons, List.drop_nil, List.nil_append, List.cons_append, List.append_nil, List.map_cons, List.map_nil, List.replicate_succ, List.replicate_zero, List.flatten_cons, List.flatten_nil, Nat.zero_add, Nat.reduceAdd, chunk]; rfl) | rfl))))
        | (refine i_fadr ?_; first | refine q_fadr rfl rfl ?_ | refine q_fadr_ref rfl rfl ?_)
        | (refine i_iadrS ?_; first | (apply q_iadrS_nat; (focus exact rfl); (focus exact rfl); (focus exact get_map (by omega)); (focus exact rfl)))
        | (refine i_lenS ?_; first | refine q_lenS_map rfl ?_ | refine q_lenS rfl ?_)
        | (refine i_pick ?_; first | refine q_pick_t rfl ?_ | refine q_pick_f rfl ?_)
        | (refine i_alloc ?_; first | (refine q_alloc fun k hk => ?_))
        | (refine i_build ?_; first | (apply q_build; (focus (repeat' (first | exact fill_nil | (apply fill_p rfl (Nat.le_of_ble_eq_true rfl); (focus (first | (simp only [Rg.pv, Pt.pv, Eg.pv, List.take_zero, List.take_succ_cons, List.take_nil, List.drop_zero, List.drop_succ_cons, List.drop_nil, List.nil_append, List.cons_append, List.append_nil, List.map_cons, List.map_nil, List.replicate_succ, List.replicate_zero, List.flatten_cons, List.flatten_nil, Nat.zero_add, Nat.reduceAdd, chunk]; rfl) | rfl))) | (apply fill_agg; (focus rfl); (focus rfl); (focus exact Nat.le_of_ble_eq_true rfl); (focus (first | (simp only [Rg.pv, Pt.pv, Eg.pv, List.take_zero, List.take_succ_cons, List.take_nil, List.drop_zero, List.drop_succ_cons, List.drop_nil, List.nil_append, List.cons_append, List.append_nil, List.map_cons, List.map_nil, List.replicate_succ, List.replicate_zero, List.flatten_cons, List.flatten_nil, Nat.zero_add, Nat.reduceAdd, chunk]; rfl) | rfl))) | (apply fill_sl rfl (Nat.le_of_ble_eq_true rfl); (focus (first | (simp only [Rg.pv, Pt.pv, Eg.pv, List.take_zero, List.take_succ_cons, List.take_nil, List.drop_zero, List.drop_succ_cons, List.drop_nil, List.nil_append, List.cons_append, List.append_nil, List.map_cons, List.map_nil, List.replicate_succ, List.replicate_zero, List.flatten_cons, List.flatten_nil, Nat.zero_add, Nat.reduceAdd, chunk]; rfl) | rfl))) | (apply fill_fn rfl (Nat.le_of_ble_eq_true rfl); (focus (first | (simp only [Rg.pv, Pt.pv, Eg.pv, List.take_zero, List.take_succ_cons, List.take_nil, List.drop_zero, List.drop_succ_cons, List.drop_nil, List.nil_append, List.cons_append, List.append_nil, List.map_cons, List.map_nil, List.replicate_succ, List.replicate_zero, List.flatten_cons, List.flatten_nil, Nat.zero_add, Nat.reduceAdd, chunk]; rfl) | rfl))) | (apply fill_ptr rfl (Nat.le_of_ble_eq_true rfl); (focus (first | (simp only [Rg.pv, Pt.pv, Eg.pv, List.take_zero, List.take_succ_cons, List.take_nil, List.drop_zero, List.drop_succ_cons, List.drop_nil, List.nil_append, List.cons_append, List.append_nil, List.map_cons, List.map_nil, List.replicate_succ, List.replicate_zero, List.flatten_cons, List.flatten_nil, Nat.zero_add, Nat.reduceAdd, chunk]; rfl) | rfl))))))))
        | (refine i_arith _ ?_; first
          | (refine i_arith .add ?_; first | (apply q_add; (focus exact rfl); (focus exact rfl); (focus exact wrap64 (by omega))))
          | (refine i_arith .sub ?_; first | (apply q_sub; (focus exact rfl); (focus exact rfl); (focus exact wrap64 (by omega))))
          | (refine i_arith .lss ?_; first | refine q_lss rfl rfl (fun h => ?_) (fun h => ?_))
          | (refine i_arith .leq ?_; first | refine q_leq rfl rfl (fun h => ?_) (fun h => ?_))
          | (refine i_arith .gtr ?_; first | refine q_gtr rfl rfl (fun h => ?_) (fun h => ?_))))
      | (refine i_guard ?_; first | refine q_on rfl ?_ | refine q_off rfl rfl ?_ | refine q_off_tup rfl ?_))
    | refine q_nil ?_
    | (refine i_awp ?_; first | refine q_seq ?_ | (refine q_reg fun n' hn' => ?_; simp only [List.length_cons, List.length_nil, Nat.zero_add, Nat.reduceAdd] at hn') | refine q_cond_t rfl ?_ | refine q_cond_f rfl ?_ | refine q_block ?_ | refine q_exit ?_ | refine q_ret ?_ | refine q_skip ?_)
    | refine q_normal ?_
    | refine q_seq_exit ?_
    | refine q_loop_exit ?_
    | refine q_loop_ret ?_
    | refine q_seq_ret ?_
    | refine q_block_normal ?_
    | refine q_block_ret ?_
    | refine q_block_hit ?_
    | refine q_block_miss rfl ?_
    )
  generalize edgE 0 rs = E at *
  have hbd : ∀ (i : Nat) (h : i < E.length), E[i].near := fun i h => hb _ (List.getElem_mem h)
  refine q_loop (γ := UG) (fun g => [(1, vi x), (8, .ptr k 0), (9, vi g.s), (10, .p (.sl (E.map Eg.pv).isEmpty (E.map Eg.pv))), (11, vi g.i)]) (fun g => ST S g.n [(k, .cells [vi x, vi y])])
    (fun g => g.i ≤ E.length ∧ n' ≤ g.n ∧ E.any (onE ⟨x, y⟩) = (E.drop g.i).any (onE ⟨x, y⟩) ∧ g.s + sumU ⟨x, y⟩ (E.drop g.i) = sumU ⟨x, y⟩ E ∧ -(g.i : Int) ≤ g.s ∧ g.s ≤ g.i) (fun g => E.length - g.i) ⟨0, n', 0⟩ (by simp) ?_ ?_
  · dsimp only; exact wk_mk hwf (by omega) (by simp) (by first | trivial | (simp only [keysP, and_true]; omega) | (repeat' (first | exact trivial | refine ⟨by omega, ?_⟩ | refine keys_vecB (fun k hk => by have := htk k hk; omega) ?_))) (by repeat' (first | exact trivial | refine ⟨?_, ?_⟩ | exact get_same | omega | refine get_other (by omega) ?_ | exact underL_mono (by omega) hu1)) (by simp only [fitsP]; repeat' (first | exact trivial | refine ⟨?_, ?_⟩ | exact .same trivial | exact wkV_out0 | exact wkV_out_eq hout (by omega) | exact wkV_ptr (by omega) | exact wkV_mapv (by omega) | exact .same (under_mono (by omega) hu.1) | exact .same (under_mono (by omega) hu.2.1) | exact .same (under_mono (by omega) hu.2.2.1) | exact wkV_int (by omega) | exact wkV_int (by simp) | exact .no _ _ _))
  · rintro ⟨i, n0, s⟩ ⟨hi, hn0, hor, hs, hs1, hs2⟩
    dsimp only at *
    repeat' (first
      | (refine i_ops ?_; first
        | (refine i_iadrS ?_; (refine q_iadrS_nat rfl rfl (get_map (by omega)) rfl ?_; have hx := hbd i (by omega); simp only [Eg.near] at hx))
        | (refine i_call 42 ?_; refine q_call (fun S => spec112 S _ _ (by omega) (by omega)) ?_)
        | (refine i_call 35 ?_; refine q_call_b (b := onE ⟨x, y⟩ (E[i]'(by omega))) (fun S => spec106E S _ _ _) (fun hq => ?_) (fun hq => ?_))
        | (refine i_call 43 ?_; refine q_call (r := vi (cross (E[i]'(by omega)).p2 (E[i]'(by omega)).q2 ⟨x, y⟩)) (fun S => spec113E S _ _ _) ?_)
        | (refine i_op ?_; first
          | (refine i_mov ?_; first | refine q_mov_p rfl ?_ | refine q_mov_agg rfl ?_ | refine q_mov_ptr rfl ?_ | refine q_mov_ref rfl ?_ | refine q_mov_sl rfl ?_ | refine q_mov_fn rfl ?_ | refine q_mov_out rfl ?_ | refine q_mov_tup rfl ?_)
          | (refine i_load1 ?_; first | (apply q_load1_ref; (focus exact rfl); (focus exact rfl)) | (apply q_load1; (focus exact rfl); (focus (repeat (first | exact get_same | refine get_other (by omega) ?_))); (focus exact rfl)))
          | (refine i_loadA ?_; first | (apply q_loadA_ref; (focus exact rfl); (focus exact Nat.le_of_ble_eq_true rfl); (focus (first | (simp only [Rg.pv, Pt.pv, Eg.pv, List.take_zero, List.take_succ_cons, List.take_nil, List.drop_zero, List.drop_succ_cons, List.drop_nil, List.nil_append, List.cons_append, List.append_nil, List.map_cons, List.map_nil, List.replicate_succ, List.replicate_zero, List.flatten_cons, List.flatten_nil, Nat.zero_add, Nat.reduceAdd, chunk]; rfl) | rfl))) | (apply q_loadA; (focus exact rfl); (focus (repeat (first | exact get_same | refine get_other (by omega) ?_))); (focus exact Nat.le_of_ble_eq_true rfl); (focus (first | (simp only [Rg.pv, Pt.pv, Eg.pv, List.take_zero, List.take_succ_cons, List.take_nil, List.drop_zero, List.drop_succ_cons, List.drop_nil, List.nil_append, List.cons_append, List.append_nil, List.map_cons, List.map_nil, List.replicate_succ, List.replicate_zero, List.flatten_cons, List.flatten_nil, Nat.zero_add, Nat.reduceAdd, chunk]; rfl) | rfl))))
          | (refine i_store ?_; first | (apply q_store_agg; (focus exact rfl); (focus (repeat (first | exact get_same | refine get_other (by omega) ?_))); (focus exact rfl); (focus exact rfl); (focus exact Nat.le_of_ble_eq_true rfl); (focus (first | (simp only [Rg.pv, Pt.pv, Eg.pv, List.take_zero, List.take_succ_cons, List.take_nil, List.drop_zero, List.drop_succ_cons, List.drop_nil, List.nil_append, List.cons_append, List.append_nil, List.map_cons, List.map_nil, List.replicate_succ, List.replicate_zero, List.flatten_cons, List.flatten_nil, Nat.zero_add, Nat.reduceAdd, chunk]; rfl) | rfl))) | (apply q_store_p; (focus exact rfl); (focus (repeat (first | exact get_same | refine get_other (by omega) ?_))); (focus exact rfl); (focus exact Nat.le_of_ble_eq_true rfl); (focus (first | (simp only [Rg.pv, Pt.pv, Eg.pv, List.take_zero, List.take_succ_cons, List.take_nil, List.drop_zero, List.drop_succ_cons, List.drop_nil, List.nil_append, List.cons_append, List.append_nil, List.map_cons, List.map_nil, List.replicate_succ, List.replicate_zero, List.flatten_cons, List.flatten_nil, Nat.zero_add, Nat.reduceAdd, chunk]; rfl) | rfl))) | (apply q_store_sl; (focus exact rfl); (focus (repeat (first | exact get_same | refine get_other (by omega) ?_))); (focus exact rfl); (focus exact Nat.le_of_ble_eq_true rfl); (focus (first | (simp only [Rg.pv, Pt.pv, Eg.pv, List.take_zero, List.take_succ_cons, List.take_nil, List.drop_zero, List.drop_succ_cons, List.drop_nil, List.nil_append, List.cons_append, List.append_nil, List.map_cons, List.map_nil, List.replicate_succ, List.replicate_zero, List.flatten_cons, List.flatten_nil, Nat.zero_add, Nat.reduceAdd, chunk]; rfl) | rfl))) | (apply q_store_fn; (focus exact rfl); (focus (repeat (first | exact get_same | refine get_other (by omega) ?_))); (focus exact rfl); (focus exact Nat.le_of_ble_eq_true rfl); (focus (first | (simp only [Rg.pv, Pt.pv, Eg.pv, List.take_zero, List.take_succ_cons, List.take_nil, List.drop_zero, List.drop_succ_cons, List.drop_nil, List.nil_append, List.cons_append, List.append_nil, List.map_cons, List.map_nil, List.replicate_succ, List.replicate_zero, List.flatten_cons, List.flatten_nil, Nat.zero_add, Nat.reduceAdd, chunk]; rfl) | rfl))))
          | (refine i_fadr ?_; first | refine q_fadr rfl rfl ?_ | refine q_fadr_ref rfl rfl ?_)
          | (refine i_iadrS ?_; first | (apply q_iadrS_nat; (focus exact rfl); (focus exact rfl); (focus exact get_map (by omega)); (focus exact rfl)))
          | (refine i_lenS ?_; first | refine q_lenS_map rfl ?_ | refine q_lenS rfl ?_)
          | (refine i_pick ?_; first | refine q_pick_t rfl ?_ | refine q_pick_f rfl ?_)
          | (refine i_alloc ?_; first | (refine q_alloc fun k hk => ?_))
          | (refine i_build ?_; first | (apply q_build; (focus (repeat' (first | exact fill_nil | (apply fill_p rfl (Nat.le_of_ble_eq_true rfl); (focus (first | (simp only [Rg.pv, Pt.pv, Eg.pv, List.take_zero, List.take_succ_cons, List.take_nil, List.drop_zero, List.drop_succ_cons, List.drop_nil, List.nil_append, List.cons_append, List.append_nil, List.map_cons, List.map_nil, List.replicate_succ, List.replicate_zero, List.flatten_cons, List.flatten_nil, Nat.zero_add, Nat.reduceAdd, chunk]; rfl) | rfl))) | (apply fill_agg; (focus rfl); (focus rfl); (focus exact Nat.le_of_ble_eq_true rfl); (focus (first | (simp only [Rg.pv, Pt.pv, Eg.pv, List.take_zero, List.take_succ_cons, List.take_nil, List.drop_zero, List.drop_succ_cons, List.drop_nil, List.nil_append, List.cons_append, List.append_nil, List.map_cons, List.map_nil, List.replicate_succ, List.replicate_zero, List.flatten_cons, List.flatten_nil, Nat.zero_add, Nat.reduceAdd, chunk]; rfl) | rfl))) | (apply fill_sl rfl (Nat.le_of_ble_eq_true rfl); (focus (first | (simp only [Rg.pv, Pt.pv, Eg.pv, List.take_zero, List.take_succ_cons, List.take_nil, List.drop_zero, List.drop_succ_cons, List.drop_nil, List.nil_append, List.cons_append, List.append_nil, List.map_cons, List.map_nil, List.replicate_succ, List.replicate_zero, List.flatten_cons, List.flatten_nil, Nat.zero_add, Nat.reduceAdd, chunk]; rfl) | rfl))) | (apply fill_fn rfl (Nat.le_of_ble_eq_true rfl); (focus (first | (simp only [Rg.pv, Pt.pv, Eg.pv, List.take_zero, List.take_succ_cons, List.take_nil, List.drop_zero, List.drop_succ_cons, List.drop_nil, List.nil_append, List.cons_append, List.append_nil, List.map_cons, List.map_nil, List.replicate_succ, List.replicate_zero, List.flatten_cons, List.flatten_nil, Nat.zero_add, Nat.reduceAdd, chunk]; rfl) | rfl))) | (apply fill_ptr rfl (Nat.le_of_ble_eq_true rfl); (focus (first | (simp only [Rg.pv, Pt.pv, Eg.pv, List.take_zero, List.take_succ_cons, List.take_nil, List.drop_zero, List.drop_succ_cons, List.drop_nil, List.nil_append, List.cons_append, List.append_nil, List.map_cons, List.map_nil, List.replicate_succ, List.replicate_zero, List.flatten_cons, List.flatten_nil, Nat.zero_add, Nat.reduceAdd, chunk]; rfl) | rfl))))))))
          | (refine i_arith _ ?_; first
            | (refine i_arith .add ?_; first | (apply q_add; (focus exact rfl); (focus exact rfl); (focus exact wrap64 (by omega))))
            | (refine i_arith .sub ?_; first | (apply q_sub; (focus exact rfl); (focus exact rfl); (focus exact wrap64 (by omega))))
            | (refine i_arith .lss ?_; first | refine q_lss rfl rfl (fun h => ?_) (fun h => ?_))
            | (refine i_arith .leq ?_; first | refine q_leq rfl rfl (fun h => ?_) (fun h => ?_))
            | (refine i_arith .gtr ?_; first | refine q_gtr rfl rfl (fun h => ?_) (fun h => ?_))))
        | (refine i_guard ?_; first | refine q_on rfl ?_ | refine q_off rfl rfl ?_ | refine q_off_tup rfl ?_))
      | refine q_nil ?_
      | (refine i_awp ?_; first | refine q_seq ?_ | (refine q_reg fun n' hn' => ?_; simp only [List.length_cons, List.length_nil, Nat.zero_add, Nat.reduceAdd] at hn') | refine q_cond_t rfl ?_ | refine q_cond_f rfl ?_ | refine q_block ?_ | refine q_exit ?_ | refine q_ret ?_ | refine q_skip ?_)
      | refine q_normal ?_
      | refine q_seq_exit ?_
      | refine q_loop_exit ?_
      | refine q_loop_ret ?_
      | refine q_seq_ret ?_
      | refine q_block_normal ?_
      | refine q_block_ret ?_
      | refine q_block_hit ?_
      | refine q_block_miss rfl ?_
      )
    · have ha : E.any (onE ⟨x, y⟩) = true := by rw [hor, drop_cons (i := i) (by omega), List.any_cons, hq, Bool.true_or]
      (refine q_fin hwf (res_cons (res_tmp_p rfl) (res_cons (res_tmp_p rfl) res_nil)) ?_ ?_ ?_ ?_; (focus (simp [windE, ha, pack])); (focus (simp only [AV.under, AV.underL, Tok.under, and_self])); (focus (first | trivial | (simp only [keysP, and_true]; omega) | (repeat' (first | exact trivial | refine ⟨by omega, ?_⟩ | refine keys_vecB (fun k hk => by have := htk k hk; omega) ?_)))); omega)
    rotate_right 1
    · have ha : E.any (onE ⟨x, y⟩) = false := by rw [hor, List.drop_eq_nil_of_le (by omega)]; rfl
      rw [List.drop_eq_nil_of_le (by omega), sumU] at hs
      (refine q_fin hwf (res_cons (res_tmp_p rfl) (res_cons (res_tmp_p rfl) res_nil)) ?_ ?_ ?_ ?_; (focus ((simp [windE, ha, pack]; omega))); (focus (simp only [AV.under, AV.underL, Tok.under, and_self])); (focus (first | trivial | (simp only [keysP, and_true]; omega) | (repeat' (first | exact trivial | refine ⟨by omega, ?_⟩ | refine keys_vecB (fun k hk => by have := htk k hk; omega) ?_)))); omega)
    all_goals
      have hd : E.drop i = (E[i]'(by omega)) :: E.drop (i + 1) := drop_cons (by omega)
      have ho' : E.any (onE ⟨x, y⟩) = (E.drop (i + 1)).any (onE ⟨x, y⟩) := by rw [hor, hd, List.any_cons, hq, Bool.false_or]
      rw [hd, sumU] at hs
      have hst : stU ⟨x, y⟩ (E[i]'(by omega)) = (if x < 2 * (E[i]'(by omega)).px ∧ 2 * (E[i]'(by omega)).qx ≤ x ∧ 0 < cross (E[i]'(by omega)).p2 (E[i]'(by omega)).q2 ⟨x, y⟩ then 1 else 0) - (if x < 2 * (E[i]'(by omega)).qx ∧ 2 * (E[i]'(by omega)).px ≤ x ∧ cross (E[i]'(by omega)).p2 (E[i]'(by omega)).q2 ⟨x, y⟩ < 0 then 1 else 0) := rfl
      rw [hst] at hs
      clear hst
      first
      | (exfalso; omega)
      | (rw [if_neg (by omega), if_neg (by omega)] at hs; refine q_loop_normal ⟨i + 1, n', s⟩ ⟨by simp only; omega, by simp only; omega, ho', by simp only; omega, by simp only; omega, by simp only; omega⟩ (by simp only; omega) ?_; dsimp only; exact wk_mk hwf (by omega) (by omega) (by first | trivial | (simp only [keysP, and_true]; omega) | (repeat' (first | exact trivial | refine ⟨by omega, ?_⟩ | refine keys_vecB (fun k hk => by have := htk k hk; omega) ?_))) (by repeat' (first | exact trivial | refine ⟨?_, ?_⟩ | exact get_same | omega | refine get_other (by omega) ?_ | exact underL_mono (by omega) hu1)) (by simp only [fitsP]; repeat' (first | exact trivial | refine ⟨?_, ?_⟩ | exact .same trivial | exact wkV_out0 | exact wkV_out_eq hout (by omega) | exact wkV_ptr (by omega) | exact wkV_mapv (by omega) | exact .same (under_mono (by omega) hu.1) | exact .same (under_mono (by omega) hu.2.1) | exact .same (under_mono (by omega) hu.2.2.1) | exact wkV_int (by omega) | exact wkV_int (by simp) | exact .no _ _ _)))
      | (rw [if_pos (by omega), if_neg (by omega)] at hs; refine q_loop_normal ⟨i + 1, n', s + 1⟩ ⟨by simp only; omega, by simp only; omega, ho', by simp only; omega, by simp only; omega, by simp only; omega⟩ (by simp only; omega) ?_; dsimp only; exact wk_mk hwf (by omega) (by omega) (by first | trivial | (simp only [keysP, and_true]; omega) | (repeat' (first | exact trivial | refine ⟨by omega, ?_⟩ | refine keys_vecB (fun k hk => by have := htk k hk; omega) ?_))) (by repeat' (first | exact trivial | refine ⟨?_, ?_⟩ | exact get_same | omega | refine get_other (by omega) ?_ | exact underL_mono (by omega) hu1)) (by simp only [fitsP]; repeat' (first | exact trivial | refine ⟨?_, ?_⟩ | exact .same trivial | exact wkV_out0 | exact wkV_out_eq hout (by omega) | exact wkV_ptr (by omega) | exact wkV_mapv (by omega) | exact .same (under_mono (by omega) hu.1) | exact .same (under_mono (by omega) hu.2.1) | exact .same (under_mono (by omega) hu.2.2.1) | exact wkV_int (by omega) | exact wkV_int (by simp) | exact .no _ _ _)))
      | (rw [if_neg (by omega), if_pos (by omega)] at hs; refine q_loop_normal ⟨i + 1, n', s - 1⟩ ⟨by simp only; omega, by simp only; omega, ho', by simp only; omega, by simp only; omega, by simp only; omega⟩ (by simp only; omega) ?_; dsimp only; exact wk_mk hwf (by omega) (by omega) (by first | trivial | (simp only [keysP, and_true]; omega) | (repeat' (first | exact trivial | refine ⟨by omega, ?_⟩ | refine keys_vecB (fun k hk => by have := htk k hk; omega) ?_))) (by repeat' (first | exact trivial | refine ⟨?_, ?_⟩ | exact get_same | omega | refine get_other (by omega) ?_ | exact underL_mono (by omega) hu1)) (by simp only [fitsP]; repeat' (first | exact trivial | refine ⟨?_, ?_⟩ | exact .same trivial | exact wkV_out0 | exact wkV_out_eq hout (by omega) | exact wkV_ptr (by omega) | exact wkV_mapv (by omega) | exact .same (under_mono (by omega) hu.1) | exact .same (under_mono (by omega) hu.2.1) | exact .same (under_mono (by omega) hu.2.2.1) | exact wkV_int (by omega) | exact wkV_int (by simp) | exact .no _ _ _)))

theorem rows5 (A : List Eg) : ∀ e ∈ A.map Eg.pv, e.length = 5 := by
  intro e he
  obtain ⟨z, _, rfl⟩ := List.mem_map.1 he
  rfl
def jobE (A B : List Rg) : List Eg := edgE 0 A ++ edgE 1 B
theorem jobE_len (A B : List Rg) : (jobE A B).length = totR A + totR B := by simp [jobE, edgE_len]
theorem isE_app {α : Type} (a b : List α) : (a.isEmpty && b.isEmpty) = (a ++ b).isEmpty := by cases a <;> rfl
theorem spec41 (S : St) (nA nB : Bool) (A B : List Rg) (op fi ru ca : Int) (hA : A.length ≤ 4611686018427387904) (hB : B.length ≤ 4611686018427387904) (ht : (totR A + totR B) * 40 ≤ 140737488355328) :
    ASpec Try.prog 17 [.agg [.p (.sl nA (A.map Rg.pv)), .p (.sl nB (B.map Rg.pv)), vi op, vi fi, vi ru, vi ca]] S (slOf ((jobE A B).map Eg.pv)) S := by
  have h1 := edgE_len 0 A
  have h2 := edgE_len 1 B
  refine q_fun hmix c41 rfl (Nat.le_of_ble_eq_true rfl) fun hwf hu => ?_
  repeat' (first
    | (refine i_ops ?_; first
      | (refine i_callF 39 ?_; refine q_callF (f := 39) (xs := (edgE 0 A).map Eg.pv) (spec110 nA A 0 hA (by omega)) (fun k8 hk8 => ?_))
      | (refine i_callF 39 ?_; refine q_callF (f := 39) (xs := (edgE 1 B).map Eg.pv) (spec110 nB B 1 hB (by omega)) (fun k9 hk9 => ?_))
      | (refine i_append ?_; refine q_append_vec rfl rfl (rows5 _) (rows5 _) (by simp only [List.length_map]; omega) (by simp only [List.length_map]; omega) (by (repeat (first | exact get_same | refine get_other (by omega) ?_))) ?_)
      | (refine i_op ?_; first
        | (refine i_mov ?_; first | refine q_mov_p rfl ?_ | refine q_mov_agg rfl ?_ | refine q_mov_ptr rfl ?_ | refine q_mov_ref rfl ?_ | refine q_mov_sl rfl ?_ | refine q_mov_fn rfl ?_ | refine q_mov_out rfl ?_ | refine q_mov_tup rfl ?_)
        | (refine i_load1 ?_; first | (apply q_load1_ref; (focus exact rfl); (focus exact rfl)) | (apply q_load1; (focus exact rfl); (focus (repeat (first | exact get_same | refine get_other (by omega) ?_))); (focus exact rfl)))
        | (refine i_fadr ?_; first | refine q_fadr rfl rfl ?_ | refine q_fadr_ref rfl rfl ?_)
        | (refine i_box ?_; first | (refine q_box_agg rfl fun k hk => ?_) | (refine q_box_p rfl fun k hk => ?_) | (refine q_box_sl rfl fun k hk => ?_) | (refine q_box_fn rfl fun k hk => ?_))))
    | (apply q_nil_drawn; (focus (repeat' (first | exact trivial | refine sep1 rfl rfl (by omega) ?_))))
    | refine q_nil ?_
    | (refine i_awp ?_; first | refine q_seq ?_ | (refine q_reg fun n' hn' => ?_; simp only [List.length_cons, List.length_nil, Nat.zero_add, Nat.reduceAdd] at hn') | (refine q_drawn fun n' hn' => ?_; simp only [List.length_cons, List.length_nil, Nat.zero_add, Nat.reduceAdd] at hn') | refine q_ret ?_)
    | refine q_normal ?_
    | refine q_seq_ret ?_
    )
  refine q_end_ret (rs := [.sl _ _ _]) hwf (res_cons (res_tmp rfl) res_nil) ?_ (by simp only [keysP, and_true]; omega) (by omega)
  have e : slOf ((jobE A B).map Eg.pv) = .p (.sl (((edgE 0 A).map Eg.pv).isEmpty && ((edgE 1 B).map Eg.pv).isEmpty) ((edgE 0 A).map Eg.pv ++ (edgE 1 B).map Eg.pv)) := by rw [slOf, jobE, List.map_append, isE_app]
  rw [e]
  exact .no _ _ _

def manyJ (A B : List Rg) : Nat := A.length + B.length + totR A + totR B
def fewJ (A B : List Rg) : Int := if manyJ A B ≤ 14 ∧ (jobE A B).length ≤ 8 then 0 else manyJ A B
theorem spec39 (S : St) (nA nB : Bool) (A B : List Rg) (op fi ru ca : Int) (hAB : (A.length + B.length) * 24 ≤ 140737488355328) (ht : A.length + B.length + totR A + totR B ≤ 4611686018427387904) :
    ASpec Try.prog 15 [.agg [.p (.sl nA (A.map Rg.pv)), .p (.sl nB (B.map Rg.pv)), vi op, vi fi, vi ru, vi ca]] S (vi (fewJ A B)) S := by
  have hm : manyJ A B = A.length + B.length + totR A + totR B := rfl
  refine q_fun hmix c39 rfl (Nat.le_of_ble_eq_true rfl) fun hwf hu => ?_
  repeat' (first
    | (refine i_ops ?_; first
      | (refine i_call 36 ?_; refine q_call (r := vi ((manyJ A B : Nat) : Int)) (fun S => spec107 S nA nB A B op fi ru ca hAB ht) ?_)
      | (refine i_call 17 ?_; refine q_call (r := slOf ((jobE A B).map Eg.pv)) (fun S => spec41 S nA nB A B op fi ru ca (by omega) (by omega) (by omega)) ?_)
      | (refine i_lenS ?_; refine q_lenS_map (l := jobE A B) (pv := Eg.pv) rfl ?_)
      | (refine i_op ?_; first
        | (refine i_mov ?_; first | refine q_mov_p rfl ?_ | refine q_mov_agg rfl ?_ | refine q_mov_ptr rfl ?_ | refine q_mov_ref rfl ?_ | refine q_mov_sl rfl ?_ | refine q_mov_fn rfl ?_ | refine q_mov_out rfl ?_ | refine q_mov_tup rfl ?_)
        | (refine i_loadA ?_; first | (apply q_loadA_ref; (focus exact rfl); (focus exact Nat.le_of_ble_eq_true rfl); (focus (first | (simp only [Rg.pv, Pt.pv, Eg.pv, List.take_zero, List.take_succ_cons, List.take_nil, List.drop_zero, List.drop_succ_cons, List.drop_nil, List.nil_append, List.cons_append, List.append_nil, List.map_cons, List.map_nil, List.replicate_succ, List.replicate_zero, List.flatten_cons, List.flatten_nil, Nat.zero_add, Nat.reduceAdd, chunk]; rfl) | rfl))) | (apply q_loadA; (focus exact rfl); (focus (repeat (first | exact get_same | refine get_other (by omega) ?_))); (focus exact Nat.le_of_ble_eq_true rfl); (focus (first | (simp only [Rg.pv, Pt.pv, Eg.pv, List.take_zero, List.take_succ_cons, List.take_nil, List.drop_zero, List.drop_succ_cons, List.drop_nil, List.nil_append, List.cons_append, List.append_nil, List.map_cons, List.map_nil, List.replicate_succ, List.replicate_zero, List.flatten_cons, List.flatten_nil, Nat.zero_add, Nat.reduceAdd, chunk]; rfl) | rfl))))
        | (refine i_lenS ?_; first | refine q_lenS_map rfl ?_ | refine q_lenS rfl ?_)
        | (refine i_pick ?_; first | refine q_pick_t rfl ?_ | refine q_pick_f rfl ?_)
        | (refine i_box ?_; first | (refine q_box_agg rfl fun k hk => ?_) | (refine q_box_p rfl fun k hk => ?_) | (refine q_box_sl rfl fun k hk => ?_) | (refine q_box_fn rfl fun k hk => ?_))
        | (refine i_arith _ ?_; first
          | (refine i_arith .leq ?_; first | refine q_leq rfl rfl (fun h => ?_) (fun h => ?_))))
      | (refine i_guard ?_; first | refine q_on rfl ?_ | refine q_off rfl rfl ?_ | refine q_off_tup rfl ?_))
    | refine q_nil ?_
    | (refine i_awp ?_; first | refine q_seq ?_ | (refine q_reg fun n' hn' => ?_; simp only [List.length_cons, List.length_nil, Nat.zero_add, Nat.reduceAdd] at hn') | refine q_cond_t rfl ?_ | refine q_cond_f rfl ?_ | refine q_ret ?_ | refine q_skip ?_)
    | refine q_normal ?_
    | refine q_seq_ret ?_
    )
  all_goals (refine q_fin_int hwf rfl ?_ ?_ ?_; (focus ((simp only [fewJ]; split <;> omega))); (focus (first | trivial | (simp only [keysP, and_true]; omega) | (repeat' (first | exact trivial | refine ⟨by omega, ?_⟩ | refine keys_vecB (fun k hk => by have := htk k hk; omega) ?_)))); omega)
end Go.Proofs.Ytinenepjloodcaa

