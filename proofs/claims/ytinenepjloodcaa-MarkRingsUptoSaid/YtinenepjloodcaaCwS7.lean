/- CONTRACTS: marks of all links: all sides. -/
import Derived.Test.YtinenepjloodcaaCwS6
set_option linter.unusedVariables false
set_option linter.unusedSimpArgs false
set_option maxHeartbeats 8000000
set_option maxRecDepth 20000
namespace Go.Proofs.Ytinenepjloodcaa
open Go.Cw
attribute [local irreducible] aops awp seqQ blockQ seqC loopQ endQ getB outV vecB

structure Sd where
  l0 : Int
  l1 : Int
  r0 : Int
  r1 : Int
deriving DecidableEq
def Sd.pv (s : Sd) : List PV := [.int .i64 s.l0, .int .i64 s.l1, .int .i64 s.r0, .int .i64 s.r1]

def Lk.mid (e : Lk) : Pt := ⟨e.px + e.qx, e.py + e.qy⟩
def cA (s : Lk → Int) (l : List Lk) (k : Nat) : Int := cnt s Lk.a k l 0
def cB (s : Lk → Int) (l : List Lk) (k : Nat) : Int := cnt s Lk.b k l 0
def sideK (l : List Lk) (k : Nat) (e : Lk) : Sd :=
  if e.py = e.qy then ⟨cA (sgU e.mid) l k, cB (sgU e.mid) l k, cA (sgU e.mid) l k + (-1) * e.a, cB (sgU e.mid) l k + (-1) * e.b⟩
  else if e.py < e.qy then ⟨cA (sgR e.mid) l k + 1 * e.a, cB (sgR e.mid) l k + 1 * e.b, cA (sgR e.mid) l k, cB (sgR e.mid) l k⟩
  else ⟨cA (sgR e.mid) l k, cB (sgR e.mid) l k, cA (sgR e.mid) l k + (-1) * e.a, cB (sgR e.mid) l k + (-1) * e.b⟩
def sidesFrom (l : List Lk) : List Lk → Nat → List Sd
  | [], _ => []
  | e :: r, k => sideK l k e :: sidesFrom l r (k + 1)
def sidesL (l : List Lk) : List Sd := if rightL l then sidesFrom l l 0 else []

structure OG where
  i : Nat
  n : Nat
  tk : Option Nat
  out : List Sd

theorem spec33 (S : St) (nl : Bool) (l : List Lk) : ASpec Try.prog 8 [.p (.sl nl (l.map Lk.pv))] S (slOf ((sidesL l).map Sd.pv)) S := by
  refine q_fun hmix c33 rfl (Nat.le_of_ble_eq_true rfl) fun hwf hu => ?_
  repeat' (first
    | (refine i_ops ?_; first
      | (refine i_call 11 ?_; refine q_call_b (fun S => ASpec.fg (spec35 S _ l)) (fun hr => ?_) (fun hr => ?_))
      | (refine i_op ?_; first
        | (refine i_mov ?_; first | refine q_mov_p rfl ?_ | refine q_mov_agg rfl ?_ | refine q_mov_ptr rfl ?_ | refine q_mov_ref rfl ?_ | refine q_mov_sl rfl ?_ | refine q_mov_fn rfl ?_ | refine q_mov_out rfl ?_ | refine q_mov_tup rfl ?_)
        | (refine i_load1 ?_; first | (apply q_load1_ref; (focus exact rfl); (focus exact rfl)) | (apply q_load1; (focus exact rfl); (focus (repeat (first | exact get_same | refine get_other (by omega) ?_))); (focus exact rfl)))
        | (refine i_loadA ?_; first | (apply q_loadA_ref; (focus exact rfl); (focus exact Nat.le_of_ble_eq_true rfl); (focus (first | (simp only [Lk.pv, List.take_zero, List.take_succ_cons, List.take_nil, List.drop_zero, List.drop_succ_cons, List.drop_nil, List.nil_append, List.cons_append, List.append_nil, List.map_cons, List.map_nil, List.replicate_succ, List.replicate_zero, List.flatten_cons, List.flatten_nil, Nat.zero_add, Nat.reduceAdd, chunk]; rfl) | rfl))) | (apply q_loadA; (focus exact rfl); (focus (repeat (first | exact get_same | refine get_other (by omega) ?_))); (focus exact Nat.le_of_ble_eq_true rfl); (focus (first | (simp only [Lk.pv, List.take_zero, List.take_succ_cons, List.take_nil, List.drop_zero, List.drop_succ_cons, List.drop_nil, List.nil_append, List.cons_append, List.append_nil, List.map_cons, List.map_nil, List.replicate_succ, List.replicate_zero, List.flatten_cons, List.flatten_nil, Nat.zero_add, Nat.reduceAdd, chunk]; rfl) | rfl))))
        | (refine i_store ?_; first | (apply q_store_agg; (focus exact rfl); (focus (repeat (first | exact get_same | refine get_other (by omega) ?_))); (focus exact rfl); (focus exact rfl); (focus exact Nat.le_of_ble_eq_true rfl); (focus (first | (simp only [Lk.pv, List.take_zero, List.take_succ_cons, List.take_nil, List.drop_zero, List.drop_succ_cons, List.drop_nil, List.nil_append, List.cons_append, List.append_nil, List.map_cons, List.map_nil, List.replicate_succ, List.replicate_zero, List.flatten_cons, List.flatten_nil, Nat.zero_add, Nat.reduceAdd, chunk]; rfl) | rfl))) | (apply q_store_p; (focus exact rfl); (focus (repeat (first | exact get_same | refine get_other (by omega) ?_))); (focus exact rfl); (focus exact Nat.le_of_ble_eq_true rfl); (focus (first | (simp only [Lk.pv, List.take_zero, List.take_succ_cons, List.take_nil, List.drop_zero, List.drop_succ_cons, List.drop_nil, List.nil_append, List.cons_append, List.append_nil, List.map_cons, List.map_nil, List.replicate_succ, List.replicate_zero, List.flatten_cons, List.flatten_nil, Nat.zero_add, Nat.reduceAdd, chunk]; rfl) | rfl))) | (apply q_store_sl; (focus exact rfl); (focus (repeat (first | exact get_same | refine get_other (by omega) ?_))); (focus exact rfl); (focus exact Nat.le_of_ble_eq_true rfl); (focus (first | (simp only [Lk.pv, List.take_zero, List.take_succ_cons, List.take_nil, List.drop_zero, List.drop_succ_cons, List.drop_nil, List.nil_append, List.cons_append, List.append_nil, List.map_cons, List.map_nil, List.replicate_succ, List.replicate_zero, List.flatten_cons, List.flatten_nil, Nat.zero_add, Nat.reduceAdd, chunk]; rfl) | rfl))) | (apply q_store_fn; (focus exact rfl); (focus (repeat (first | exact get_same | refine get_other (by omega) ?_))); (focus exact rfl); (focus exact Nat.le_of_ble_eq_true rfl); (focus (first | (simp only [Lk.pv, List.take_zero, List.take_succ_cons, List.take_nil, List.drop_zero, List.drop_succ_cons, List.drop_nil, List.nil_append, List.cons_append, List.append_nil, List.map_cons, List.map_nil, List.replicate_succ, List.replicate_zero, List.flatten_cons, List.flatten_nil, Nat.zero_add, Nat.reduceAdd, chunk]; rfl) | rfl))))
        | (refine i_fadr ?_; first | refine q_fadr rfl rfl ?_ | refine q_fadr_ref rfl rfl ?_)
        | (refine i_iadrS ?_; first | (apply q_iadrS_nat; (focus exact rfl); (focus exact rfl); (focus exact get_map (by omega)); (focus exact rfl)))
        | (refine i_lenS ?_; first | refine q_lenS_map rfl ?_ | refine q_lenS rfl ?_)
        | (refine i_not ?_; first | refine q_not rfl rfl ?_)
        | (refine i_alloc ?_; first | (refine q_alloc fun k hk => ?_))
        | (refine i_build ?_; first | (apply q_build; (focus (repeat' (first | exact fill_nil | (apply fill_p rfl (Nat.le_of_ble_eq_true rfl); (focus (first | (simp only [Lk.pv, List.take_zero, List.take_succ_cons, List.take_nil, List.drop_zero, List.drop_succ_cons, List.drop_nil, List.nil_append, List.cons_append, List.append_nil, List.map_cons, List.map_nil, List.replicate_succ, List.replicate_zero, List.flatten_cons, List.flatten_nil, Nat.zero_add, Nat.reduceAdd, chunk]; rfl) | rfl))) | (apply fill_agg; (focus rfl); (focus rfl); (focus exact Nat.le_of_ble_eq_true rfl); (focus (first | (simp only [Lk.pv, List.take_zero, List.take_succ_cons, List.take_nil, List.drop_zero, List.drop_succ_cons, List.drop_nil, List.nil_append, List.cons_append, List.append_nil, List.map_cons, List.map_nil, List.replicate_succ, List.replicate_zero, List.flatten_cons, List.flatten_nil, Nat.zero_add, Nat.reduceAdd, chunk]; rfl) | rfl))) | (apply fill_sl rfl (Nat.le_of_ble_eq_true rfl); (focus (first | (simp only [Lk.pv, List.take_zero, List.take_succ_cons, List.take_nil, List.drop_zero, List.drop_succ_cons, List.drop_nil, List.nil_append, List.cons_append, List.append_nil, List.map_cons, List.map_nil, List.replicate_succ, List.replicate_zero, List.flatten_cons, List.flatten_nil, Nat.zero_add, Nat.reduceAdd, chunk]; rfl) | rfl))) | (apply fill_fn rfl (Nat.le_of_ble_eq_true rfl); (focus (first | (simp only [Lk.pv, List.take_zero, List.take_succ_cons, List.take_nil, List.drop_zero, List.drop_succ_cons, List.drop_nil, List.nil_append, List.cons_append, List.append_nil, List.map_cons, List.map_nil, List.replicate_succ, List.replicate_zero, List.flatten_cons, List.flatten_nil, Nat.zero_add, Nat.reduceAdd, chunk]; rfl) | rfl))) | (apply fill_ptr rfl (Nat.le_of_ble_eq_true rfl); (focus (first | (simp only [Lk.pv, List.take_zero, List.take_succ_cons, List.take_nil, List.drop_zero, List.drop_succ_cons, List.drop_nil, List.nil_append, List.cons_append, List.append_nil, List.map_cons, List.map_nil, List.replicate_succ, List.replicate_zero, List.flatten_cons, List.flatten_nil, Nat.zero_add, Nat.reduceAdd, chunk]; rfl) | rfl))))))))
        | (refine i_bslice ?_; first | (apply q_bslice; (focus (repeat' (first | exact fill_nil | (apply fill_p rfl (Nat.le_of_ble_eq_true rfl); (focus (first | (simp only [Lk.pv, List.take_zero, List.take_succ_cons, List.take_nil, List.drop_zero, List.drop_succ_cons, List.drop_nil, List.nil_append, List.cons_append, List.append_nil, List.map_cons, List.map_nil, List.replicate_succ, List.replicate_zero, List.flatten_cons, List.flatten_nil, Nat.zero_add, Nat.reduceAdd, chunk]; rfl) | rfl))) | (apply fill_agg; (focus rfl); (focus rfl); (focus exact Nat.le_of_ble_eq_true rfl); (focus (first | (simp only [Lk.pv, List.take_zero, List.take_succ_cons, List.take_nil, List.drop_zero, List.drop_succ_cons, List.drop_nil, List.nil_append, List.cons_append, List.append_nil, List.map_cons, List.map_nil, List.replicate_succ, List.replicate_zero, List.flatten_cons, List.flatten_nil, Nat.zero_add, Nat.reduceAdd, chunk]; rfl) | rfl))) | (apply fill_sl rfl (Nat.le_of_ble_eq_true rfl); (focus (first | (simp only [Lk.pv, List.take_zero, List.take_succ_cons, List.take_nil, List.drop_zero, List.drop_succ_cons, List.drop_nil, List.nil_append, List.cons_append, List.append_nil, List.map_cons, List.map_nil, List.replicate_succ, List.replicate_zero, List.flatten_cons, List.flatten_nil, Nat.zero_add, Nat.reduceAdd, chunk]; rfl) | rfl))) | (apply fill_fn rfl (Nat.le_of_ble_eq_true rfl); (focus (first | (simp only [Lk.pv, List.take_zero, List.take_succ_cons, List.take_nil, List.drop_zero, List.drop_succ_cons, List.drop_nil, List.nil_append, List.cons_append, List.append_nil, List.map_cons, List.map_nil, List.replicate_succ, List.replicate_zero, List.flatten_cons, List.flatten_nil, Nat.zero_add, Nat.reduceAdd, chunk]; rfl) | rfl))) | (apply fill_ptr rfl (Nat.le_of_ble_eq_true rfl); (focus (first | (simp only [Lk.pv, List.take_zero, List.take_succ_cons, List.take_nil, List.drop_zero, List.drop_succ_cons, List.drop_nil, List.nil_append, List.cons_append, List.append_nil, List.map_cons, List.map_nil, List.replicate_succ, List.replicate_zero, List.flatten_cons, List.flatten_nil, Nat.zero_add, Nat.reduceAdd, chunk]; rfl) | rfl)))))); (focus rfl); (focus (first | (simp only [Lk.pv, List.take_zero, List.take_succ_cons, List.take_nil, List.drop_zero, List.drop_succ_cons, List.drop_nil, List.nil_append, List.cons_append, List.append_nil, List.map_cons, List.map_nil, List.replicate_succ, List.replicate_zero, List.flatten_cons, List.flatten_nil, Nat.zero_add, Nat.reduceAdd, chunk]; rfl) | rfl))))
        | (refine i_arith _ ?_; first
          | (refine i_arith .add ?_; first | (apply q_add; (focus exact rfl); (focus exact rfl); (focus exact wrap64 (by omega))))
          | (refine i_arith .lss ?_; first | refine q_lss rfl rfl (fun h => ?_) (fun h => ?_))
          | (refine i_arith .eql ?_; first | refine q_eql rfl rfl (fun h => ?_) (fun h => ?_)))))
    | (apply q_nil_drawn; (focus (repeat' (first | exact trivial | refine sep1 rfl rfl (by omega) ?_))))
    | refine q_nil ?_
    | (refine i_awp ?_; first | refine q_seq ?_ | (refine q_reg fun n' hn' => ?_; simp only [List.length_cons, List.length_nil, Nat.zero_add, Nat.reduceAdd] at hn') | (refine q_drawn fun n' hn' => ?_; simp only [List.length_cons, List.length_nil, Nat.zero_add, Nat.reduceAdd] at hn') | refine q_cond_t rfl ?_ | refine q_cond_f rfl ?_ | refine q_block ?_ | refine q_exit ?_ | refine q_ret ?_ | refine q_skip ?_)
    | refine q_normal ?_
    | refine q_seq_exit ?_
    | refine q_loop_exit ?_
    | refine q_loop_ret ?_
    | refine q_seq_ret ?_
    | refine q_block_normal ?_
    | refine q_block_ret ?_
    | refine q_block_hit ?_
    | refine q_block_miss rfl ?_
    )
  · have hbd := rightL_bd hr
    have hlen := (rightL_mem hr).1
    have hcnt := fun (s : Lk → Int) (k : Int) (hs : ∀ e, -1 ≤ s e ∧ s e ≤ 1) => And.intro (cnt_bd' (s := s) (f := Lk.a) (but := k) hs hr (fun e he => (mayL_b he).2.2.2.2.1)) (cnt_bd' (s := s) (f := Lk.b) (but := k) hs hr (fun e he => (mayL_b he).2.2.2.2.2))
    refine q_loop (γ := OG) (fun g => [(0, .p (.sl nl (l.map Lk.pv))), (3, outV (g.out.map Sd.pv) g.tk), (14, .p (.sl nl (l.map Lk.pv))), (15, vi (l.length : Nat)), (16, vi g.i)]) (fun g => ST S g.n (vecB g.tk (g.out.map Sd.pv).length 4 []))
      (fun g => g.i ≤ l.length ∧ n' ≤ g.n ∧ g.out.length = g.i ∧ g.out ++ sidesFrom l (l.drop g.i) g.i = sidesFrom l l 0 ∧ (g.tk = none → g.i = 0) ∧ ∀ k, g.tk = some k → n' ≤ k ∧ k < g.n ∧ 0 < g.i) (fun g => l.length - g.i) ⟨0, n', none, []⟩ (by simp) ?_ ?_
    · exact wk_mk hwf (by simp only; omega) (by simp) (by first | trivial | (simp only [keysP, and_true]; omega) | (repeat' (first | exact trivial | refine ⟨by omega, ?_⟩ | refine keys_vecB (fun k hk => by have := htk k hk; omega) ?_))) (blks_vecB (fun k hk => by cases hk) trivial) (by simp only [fitsP]; repeat' (first | exact trivial | refine ⟨?_, ?_⟩ | exact .same trivial | exact wkV_out0 | exact wkV_out_eq hout (by omega) | exact wkV_ptr (by omega) | exact wkV_mapv (by omega) | exact .same (under_mono (by omega) hu.1) | exact .same (under_mono (by omega) hu.2.1) | exact .same (under_mono (by omega) hu.2.2.1) | exact wkV_int (by omega) | exact wkV_int (by simp) | exact .no _ _ _))
    · rintro ⟨i, n0, tk, out⟩ ⟨hi, hn0, hol, hout0, htk0, htk⟩
      dsimp only at *
      have hln : (out.map Sd.pv).length ≤ 1048576 := by rw [List.length_map]; omega
      repeat' (first
        | (refine i_ops ?_; first
          | (refine i_iadrS ?_; (refine q_iadrS_nat rfl rfl (get_map (by omega)) rfl ?_; have hz := hbd i (by omega)))
          | (refine i_call 20 ?_; refine q_call (fun S => spec92 S _ _) ?_)
          | (refine i_call 23 ?_; refine q_call (fun S => spec95 S _ _) ?_)
          | (refine i_call 21 ?_; (refine q_call (fun S => ASpec.fg (spec93R S _ _ _ _ _ l _ hr)) ?_; have hcn := hcnt (sgR ⟨l[i].px + l[i].qx, l[i].py + l[i].qy⟩) i (sgR_b _)))
          | (refine i_call 21 ?_; (refine q_call (fun S => ASpec.fg (spec93U S _ _ _ _ _ l _ hr)) ?_; have hcn := hcnt (sgU ⟨l[i].px + l[i].qx, l[i].py + l[i].qy⟩) i (sgU_b _)))
          | (refine i_call 22 ?_; refine q_call (fun S => spec94 S _ _ _ _ _ ⟨by omega, by omega⟩ ⟨by omega, by omega⟩ (by omega)) ?_)
          | (refine i_append ?_; (refine q_append_out (tk := tk) rfl rfl (rows_len (pv := Sd.pv) (fun _ => rfl) _) rfl (by omega) (by omega) (fun k hk => by have := htk k hk; (repeat (refine get_other (by omega) ?_)); exact get_vecB_self k hk) (fun k9 hk9 => ?_)))
          | (refine i_op ?_; first
            | (refine i_mov ?_; first | refine q_mov_p rfl ?_ | refine q_mov_agg rfl ?_ | refine q_mov_ptr rfl ?_ | refine q_mov_ref rfl ?_ | refine q_mov_sl rfl ?_ | refine q_mov_fn rfl ?_ | refine q_mov_out rfl ?_ | refine q_mov_tup rfl ?_)
            | (refine i_load1 ?_; first | (apply q_load1_ref; (focus exact rfl); (focus exact rfl)) | (apply q_load1; (focus exact rfl); (focus (repeat (first | exact get_same | refine get_other (by omega) ?_))); (focus exact rfl)))
            | (refine i_loadA ?_; first | (apply q_loadA_ref; (focus exact rfl); (focus exact Nat.le_of_ble_eq_true rfl); (focus (first | (simp only [Lk.pv, List.take_zero, List.take_succ_cons, List.take_nil, List.drop_zero, List.drop_succ_cons, List.drop_nil, List.nil_append, List.cons_append, List.append_nil, List.map_cons, List.map_nil, List.replicate_succ, List.replicate_zero, List.flatten_cons, List.flatten_nil, Nat.zero_add, Nat.reduceAdd, chunk]; rfl) | rfl))) | (apply q_loadA; (focus exact rfl); (focus (repeat (first | exact get_same | refine get_other (by omega) ?_))); (focus exact Nat.le_of_ble_eq_true rfl); (focus (first | (simp only [Lk.pv, List.take_zero, List.take_succ_cons, List.take_nil, List.drop_zero, List.drop_succ_cons, List.drop_nil, List.nil_append, List.cons_append, List.append_nil, List.map_cons, List.map_nil, List.replicate_succ, List.replicate_zero, List.flatten_cons, List.flatten_nil, Nat.zero_add, Nat.reduceAdd, chunk]; rfl) | rfl))))
            | (refine i_store ?_; first | (apply q_store_agg; (focus exact rfl); (focus (repeat (first | exact get_same | refine get_other (by omega) ?_))); (focus exact rfl); (focus exact rfl); (focus exact Nat.le_of_ble_eq_true rfl); (focus (first | (simp only [Lk.pv, List.take_zero, List.take_succ_cons, List.take_nil, List.drop_zero, List.drop_succ_cons, List.drop_nil, List.nil_append, List.cons_append, List.append_nil, List.map_cons, List.map_nil, List.replicate_succ, List.replicate_zero, List.flatten_cons, List.flatten_nil, Nat.zero_add, Nat.reduceAdd, chunk]; rfl) | rfl))) | (apply q_store_p; (focus exact rfl); (focus (repeat (first | exact get_same | refine get_other (by omega) ?_))); (focus exact rfl); (focus exact Nat.le_of_ble_eq_true rfl); (focus (first | (simp only [Lk.pv, List.take_zero, List.take_succ_cons, List.take_nil, List.drop_zero, List.drop_succ_cons, List.drop_nil, List.nil_append, List.cons_append, List.append_nil, List.map_cons, List.map_nil, List.replicate_succ, List.replicate_zero, List.flatten_cons, List.flatten_nil, Nat.zero_add, Nat.reduceAdd, chunk]; rfl) | rfl))) | (apply q_store_sl; (focus exact rfl); (focus (repeat (first | exact get_same | refine get_other (by omega) ?_))); (focus exact rfl); (focus exact Nat.le_of_ble_eq_true rfl); (focus (first | (simp only [Lk.pv, List.take_zero, List.take_succ_cons, List.take_nil, List.drop_zero, List.drop_succ_cons, List.drop_nil, List.nil_append, List.cons_append, List.append_nil, List.map_cons, List.map_nil, List.replicate_succ, List.replicate_zero, List.flatten_cons, List.flatten_nil, Nat.zero_add, Nat.reduceAdd, chunk]; rfl) | rfl))) | (apply q_store_fn; (focus exact rfl); (focus (repeat (first | exact get_same | refine get_other (by omega) ?_))); (focus exact rfl); (focus exact Nat.le_of_ble_eq_true rfl); (focus (first | (simp only [Lk.pv, List.take_zero, List.take_succ_cons, List.take_nil, List.drop_zero, List.drop_succ_cons, List.drop_nil, List.nil_append, List.cons_append, List.append_nil, List.map_cons, List.map_nil, List.replicate_succ, List.replicate_zero, List.flatten_cons, List.flatten_nil, Nat.zero_add, Nat.reduceAdd, chunk]; rfl) | rfl))))
            | (refine i_fadr ?_; first | refine q_fadr rfl rfl ?_ | refine q_fadr_ref rfl rfl ?_)
            | (refine i_iadrS ?_; first | (apply q_iadrS_nat; (focus exact rfl); (focus exact rfl); (focus exact get_map (by omega)); (focus exact rfl)))
            | (refine i_lenS ?_; first | refine q_lenS_map rfl ?_ | refine q_lenS rfl ?_)
            | (refine i_not ?_; first | refine q_not rfl rfl ?_)
            | (refine i_alloc ?_; first | (refine q_alloc fun k hk => ?_))
            | (refine i_build ?_; first | (apply q_build; (focus (repeat' (first | exact fill_nil | (apply fill_p rfl (Nat.le_of_ble_eq_true rfl); (focus (first | (simp only [Lk.pv, List.take_zero, List.take_succ_cons, List.take_nil, List.drop_zero, List.drop_succ_cons, List.drop_nil, List.nil_append, List.cons_append, List.append_nil, List.map_cons, List.map_nil, List.replicate_succ, List.replicate_zero, List.flatten_cons, List.flatten_nil, Nat.zero_add, Nat.reduceAdd, chunk]; rfl) | rfl))) | (apply fill_agg; (focus rfl); (focus rfl); (focus exact Nat.le_of_ble_eq_true rfl); (focus (first | (simp only [Lk.pv, List.take_zero, List.take_succ_cons, List.take_nil, List.drop_zero, List.drop_succ_cons, List.drop_nil, List.nil_append, List.cons_append, List.append_nil, List.map_cons, List.map_nil, List.replicate_succ, List.replicate_zero, List.flatten_cons, List.flatten_nil, Nat.zero_add, Nat.reduceAdd, chunk]; rfl) | rfl))) | (apply fill_sl rfl (Nat.le_of_ble_eq_true rfl); (focus (first | (simp only [Lk.pv, List.take_zero, List.take_succ_cons, List.take_nil, List.drop_zero, List.drop_succ_cons, List.drop_nil, List.nil_append, List.cons_append, List.append_nil, List.map_cons, List.map_nil, List.replicate_succ, List.replicate_zero, List.flatten_cons, List.flatten_nil, Nat.zero_add, Nat.reduceAdd, chunk]; rfl) | rfl))) | (apply fill_fn rfl (Nat.le_of_ble_eq_true rfl); (focus (first | (simp only [Lk.pv, List.take_zero, List.take_succ_cons, List.take_nil, List.drop_zero, List.drop_succ_cons, List.drop_nil, List.nil_append, List.cons_append, List.append_nil, List.map_cons, List.map_nil, List.replicate_succ, List.replicate_zero, List.flatten_cons, List.flatten_nil, Nat.zero_add, Nat.reduceAdd, chunk]; rfl) | rfl))) | (apply fill_ptr rfl (Nat.le_of_ble_eq_true rfl); (focus (first | (simp only [Lk.pv, List.take_zero, List.take_succ_cons, List.take_nil, List.drop_zero, List.drop_succ_cons, List.drop_nil, List.nil_append, List.cons_append, List.append_nil, List.map_cons, List.map_nil, List.replicate_succ, List.replicate_zero, List.flatten_cons, List.flatten_nil, Nat.zero_add, Nat.reduceAdd, chunk]; rfl) | rfl))))))))
            | (refine i_bslice ?_; first | (apply q_bslice; (focus (repeat' (first | exact fill_nil | (apply fill_p rfl (Nat.le_of_ble_eq_true rfl); (focus (first | (simp only [Lk.pv, List.take_zero, List.take_succ_cons, List.take_nil, List.drop_zero, List.drop_succ_cons, List.drop_nil, List.nil_append, List.cons_append, List.append_nil, List.map_cons, List.map_nil, List.replicate_succ, List.replicate_zero, List.flatten_cons, List.flatten_nil, Nat.zero_add, Nat.reduceAdd, chunk]; rfl) | rfl))) | (apply fill_agg; (focus rfl); (focus rfl); (focus exact Nat.le_of_ble_eq_true rfl); (focus (first | (simp only [Lk.pv, List.take_zero, List.take_succ_cons, List.take_nil, List.drop_zero, List.drop_succ_cons, List.drop_nil, List.nil_append, List.cons_append, List.append_nil, List.map_cons, List.map_nil, List.replicate_succ, List.replicate_zero, List.flatten_cons, List.flatten_nil, Nat.zero_add, Nat.reduceAdd, chunk]; rfl) | rfl))) | (apply fill_sl rfl (Nat.le_of_ble_eq_true rfl); (focus (first | (simp only [Lk.pv, List.take_zero, List.take_succ_cons, List.take_nil, List.drop_zero, List.drop_succ_cons, List.drop_nil, List.nil_append, List.cons_append, List.append_nil, List.map_cons, List.map_nil, List.replicate_succ, List.replicate_zero, List.flatten_cons, List.flatten_nil, Nat.zero_add, Nat.reduceAdd, chunk]; rfl) | rfl))) | (apply fill_fn rfl (Nat.le_of_ble_eq_true rfl); (focus (first | (simp only [Lk.pv, List.take_zero, List.take_succ_cons, List.take_nil, List.drop_zero, List.drop_succ_cons, List.drop_nil, List.nil_append, List.cons_append, List.append_nil, List.map_cons, List.map_nil, List.replicate_succ, List.replicate_zero, List.flatten_cons, List.flatten_nil, Nat.zero_add, Nat.reduceAdd, chunk]; rfl) | rfl))) | (apply fill_ptr rfl (Nat.le_of_ble_eq_true rfl); (focus (first | (simp only [Lk.pv, List.take_zero, List.take_succ_cons, List.take_nil, List.drop_zero, List.drop_succ_cons, List.drop_nil, List.nil_append, List.cons_append, List.append_nil, List.map_cons, List.map_nil, List.replicate_succ, List.replicate_zero, List.flatten_cons, List.flatten_nil, Nat.zero_add, Nat.reduceAdd, chunk]; rfl) | rfl)))))); (focus rfl); (focus (first | (simp only [Lk.pv, List.take_zero, List.take_succ_cons, List.take_nil, List.drop_zero, List.drop_succ_cons, List.drop_nil, List.nil_append, List.cons_append, List.append_nil, List.map_cons, List.map_nil, List.replicate_succ, List.replicate_zero, List.flatten_cons, List.flatten_nil, Nat.zero_add, Nat.reduceAdd, chunk]; rfl) | rfl))))
            | (refine i_arith _ ?_; first
              | (refine i_arith .add ?_; first | (apply q_add; (focus exact rfl); (focus exact rfl); (focus exact wrap64 (by omega))))
              | (refine i_arith .lss ?_; first | refine q_lss rfl rfl (fun h => ?_) (fun h => ?_))
              | (refine i_arith .eql ?_; first | refine q_eql rfl rfl (fun h => ?_) (fun h => ?_)))))
        | (apply q_nil_drawn; (focus (repeat' (first | exact trivial | refine sep1 rfl rfl (by omega) ?_))))
        | refine q_nil ?_
        | (refine i_awp ?_; first | refine q_seq ?_ | (refine q_reg fun n' hn' => ?_; simp only [List.length_cons, List.length_nil, Nat.zero_add, Nat.reduceAdd] at hn') | (refine q_drawn fun n' hn' => ?_; simp only [List.length_cons, List.length_nil, Nat.zero_add, Nat.reduceAdd] at hn') | refine q_cond_t rfl ?_ | refine q_cond_f rfl ?_ | refine q_block ?_ | refine q_exit ?_ | refine q_ret ?_ | refine q_skip ?_)
        | refine q_normal ?_
        | refine q_seq_exit ?_
        | refine q_loop_exit ?_
        | refine q_loop_ret ?_
        | refine q_seq_ret ?_
        | refine q_block_normal ?_
        | refine q_block_ret ?_
        | refine q_block_hit ?_
        | refine q_block_miss rfl ?_
        )
      rotate_right 1
      · have hd : l.drop i = [] := List.drop_eq_nil_of_le (by omega)
        rw [hd] at hout0
        simp only [sidesFrom, List.append_nil] at hout0
        refine q_end_ret hwf (res_out rfl) ?_ (by first | trivial | (simp only [keysP, and_true]; omega) | (repeat' (first | exact trivial | refine ⟨by omega, ?_⟩ | refine keys_vecB (fun k hk => by have := htk k hk; omega) ?_))) (by omega)
        show wkV S.n (outV (out.map Sd.pv) tk) _
        have e : sidesL l = out := by simp only [sidesL, hr, if_true]; exact hout0.symm
        rw [e]
        refine wkV_out (fun h0 => ?_) (fun k hk => ?_)
        · have := htk0 h0
          have : out = [] := List.eq_nil_of_length_eq_zero (by omega)
          rw [this]; rfl
        · have := htk k hk
          intro e
          have : out.length = 0 := by simpa using congrArg List.length e
          omega
      all_goals
        have hk9' : k9 < n' ∧ S.n ≤ k9 := by
          rcases hk9 with ⟨_, h5⟩ | h5
          · omega
          · have := htk _ h5; omega
        have hout : out.map Sd.pv ++ [(sideK l i l[i]).pv] = (out ++ [sideK l i l[i]]).map Sd.pv := by rw [List.map_append]; rfl
        have hlen' : ((out ++ [sideK l i l[i]]).map Sd.pv).length = (out.map Sd.pv).length + 1 := by rw [← hout]; simp
        refine q_loop_normal ⟨i + 1, n', some k9, out ++ [sideK l i l[i]]⟩ ⟨by simp only; omega, by simp only; omega, by simp [hol], ?_, by simp, ?_⟩ (by simp only; omega) (wk_mk hwf (by simp only; omega) (by simp) (by first | trivial | (simp only [keysP, and_true]; omega) | (repeat' (first | exact trivial | refine ⟨by omega, ?_⟩ | refine keys_vecB (fun k hk => by have := htk k hk; omega) ?_))) (blks_vecB (fun k hk => by cases hk; exact ⟨by rw [hlen']; exact get_same, hk9'.1⟩) trivial) ?_)
        · rw [← hout0, drop_cons (i := i) (by omega)]; simp only [sidesFrom, List.append_assoc, List.singleton_append]
        · intro k hk
          cases hk
          rcases hk9 with ⟨_, h5⟩ | h5
          · simp only; omega
          · have := htk _ h5; simp only; omega
        · have hsd : sideK l i l[i] = sideK l i l[i] := rfl
          conv at hsd => rhs; rw [sideK]
          first
            | rw [if_neg (show ¬ l[i].py = l[i].qy by assumption), if_pos h] at hsd
            | rw [if_neg (show ¬ l[i].py = l[i].qy by assumption), if_neg (show ¬ l[i].py < l[i].qy by omega)] at hsd
            | rw [if_pos h] at hsd
          rw [← hout, hsd]
          simp only [fitsP]
          exact ⟨.same trivial, wkV_out_eq rfl hk9'.1, .same trivial, .same trivial, wkV_int (by omega), trivial⟩
  · refine q_end_ret hwf (res_cons (res_tmp rfl) res_nil) ?_ (by first | trivial | (simp only [keysP, and_true]; omega) | (repeat' (first | exact trivial | refine ⟨by omega, ?_⟩ | refine keys_vecB (fun k hk => by have := htk k hk; omega) ?_))) (by omega)
    have e : sidesL l = [] := by simp [sidesL, hr]
    rw [e]
    exact .no _ _ _
end Go.Proofs.Ytinenepjloodcaa

