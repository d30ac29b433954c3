/- CONTRACTS: layer 16's statements MarkWinds and MarkOf: they answer true. -/
import Derived.Test.YtinenepjloodcaaCwS13
import Derived.Test.YtinenepjloodcaaCwS8
import Derived.Test.YtinenepjloodcaaCwS6
set_option linter.unusedVariables false
set_option linter.unusedSimpArgs false
set_option maxHeartbeats 8000000
set_option maxRecDepth 20000
namespace Go.Proofs.Ytinenepjloodcaa
open Go.Cw
attribute [local irreducible] aops awp seqQ blockQ seqC loopQ endQ getB outV vecB

section
variable {P : Program} {m : CMode} {os : List AOper} {id : Nat} {F : Nat → AV} {S S0 : St} {K : (Nat → AV) → St → Prop} {d n : Nat} {H : List (Nat × Blk)} {x y c : Opd} {dst : Option Nat}
theorem q_eqA_f {L : List (Option IntKind)} {cs ds : List AV} (hx : evalO F x = .agg cs) (hy : evalO F y = .agg ds) (hb : eqCells L cs ds = some true) (h : aops P m os (id + 1) (upd F d (.p (.bool false))) S K) :
    aops P m (⟨some d, .eqA L true x y, none⟩ :: os) id F S K := q_eqA hx hy hb (fun _ => h) (fun e => by cases e)
end
theorem eq2 (a b : Int) : eqCells [some .i64, some .i64] [vi a, vi b] [vi a, vi b] = some true := by simp [eqCells]
theorem windL_out {l : List Lk} {x y : Int} (h : rightL l = false ∨ 268435456 < x ∨ x < -268435456 ∨ 268435456 < y ∨ y < -268435456) : windL l ⟨x, y⟩ = ((0, 0), false) := by
  simp only [windL]
  rw [if_neg]
  simp only [small, Bool.and_eq_true, decide_eq_true_eq]
  rintro ⟨⟨h1, h2⟩, h3⟩
  rcases h with h | h
  · rw [h] at h1; cases h1
  · omega

theorem eqW0 {l : List Lk} {x y : Int} (h : rightL l = false ∨ 268435456 < x ∨ x < -268435456 ∨ 268435456 < y ∨ y < -268435456) : eqCells [some .i64, some .i64] [vi (windL l ⟨x, y⟩).1.1, vi (windL l ⟨x, y⟩).1.2] [.p (.int .i64 0), .p (.int .i64 0)] = some true := by rw [windL_out h]; rfl

theorem spec7 (S : St) (nl : Bool) (l : List Lk) (x y : Int) : ASpec Try.prog 4 [.p (.sl nl (l.map Lk.pv)), vi x, vi y] S (vb true) S := by
  refine q_fun hmix c7 rfl (Nat.le_of_ble_eq_true rfl) fun hwf hu => ?_
  repeat' (first
    | (refine i_ops ?_; first
      | (refine i_call 7 ?_; refine q_call (fun S => ASpec.fg (spec32 S)) ?_)
      | (refine i_call 9 ?_; refine q_call (fun S => ASpec.fg (spec23 S _ l (by omega))) ?_)
      | (refine i_call 13 ?_; refine q_call (fun S => ASpec.fg (spec37 S _ l _ _)) ?_)
      | (refine i_call 10 ?_; refine q_call_b (fun S => ASpec.fg (spec34 S _ l)) (fun hr => ?_) (fun hr => ?_))
      | (refine i_call 14 ?_; refine q_call (fun S => ASpec.fg (spec38 S _ l _ _ hr (by simp [small]; omega) (by simp [small]; omega))) ?_)
      | (refine i_eqA ?_; refine q_eqA_t rfl rfl (eqW0 (by first | (left; assumption) | (right; omega))) ?_)
      | (refine i_eqA ?_; refine q_eqA_t rfl rfl (eq2 _ _) ?_)
      | (refine i_op ?_; first
        | (refine i_mov ?_; first | refine q_mov_p rfl ?_ | refine q_mov_agg rfl ?_ | refine q_mov_ptr rfl ?_ | refine q_mov_ref rfl ?_ | refine q_mov_sl rfl ?_ | refine q_mov_fn rfl ?_ | refine q_mov_out rfl ?_ | refine q_mov_tup rfl ?_)
        | (refine i_loadA ?_; first | (apply q_loadA_ref; (focus exact rfl); (focus exact Nat.le_of_ble_eq_true rfl); (focus (first | (simp only [Lk.pv, List.take_zero, List.take_succ_cons, List.take_nil, List.drop_zero, List.drop_succ_cons, List.drop_nil, List.nil_append, List.cons_append, List.append_nil, List.map_cons, List.map_nil, List.replicate_succ, List.replicate_zero, List.flatten_cons, List.flatten_nil, Nat.zero_add, Nat.reduceAdd, chunk]; rfl) | rfl))) | (apply q_loadA; (focus exact rfl); (focus (repeat (first | exact get_same | refine get_other (by omega) ?_))); (focus exact Nat.le_of_ble_eq_true rfl); (focus (first | (simp only [Lk.pv, List.take_zero, List.take_succ_cons, List.take_nil, List.drop_zero, List.drop_succ_cons, List.drop_nil, List.nil_append, List.cons_append, List.append_nil, List.map_cons, List.map_nil, List.replicate_succ, List.replicate_zero, List.flatten_cons, List.flatten_nil, Nat.zero_add, Nat.reduceAdd, chunk]; rfl) | rfl))))
        | (refine i_store ?_; first | (apply q_store_agg; (focus exact rfl); (focus (repeat (first | exact get_same | refine get_other (by omega) ?_))); (focus exact rfl); (focus exact rfl); (focus exact Nat.le_of_ble_eq_true rfl); (focus (first | (simp only [Lk.pv, List.take_zero, List.take_succ_cons, List.take_nil, List.drop_zero, List.drop_succ_cons, List.drop_nil, List.nil_append, List.cons_append, List.append_nil, List.map_cons, List.map_nil, List.replicate_succ, List.replicate_zero, List.flatten_cons, List.flatten_nil, Nat.zero_add, Nat.reduceAdd, chunk]; rfl) | rfl))) | (apply q_store_p; (focus exact rfl); (focus (repeat (first | exact get_same | refine get_other (by omega) ?_))); (focus exact rfl); (focus exact Nat.le_of_ble_eq_true rfl); (focus (first | (simp only [Lk.pv, List.take_zero, List.take_succ_cons, List.take_nil, List.drop_zero, List.drop_succ_cons, List.drop_nil, List.nil_append, List.cons_append, List.append_nil, List.map_cons, List.map_nil, List.replicate_succ, List.replicate_zero, List.flatten_cons, List.flatten_nil, Nat.zero_add, Nat.reduceAdd, chunk]; rfl) | rfl))) | (apply q_store_sl; (focus exact rfl); (focus (repeat (first | exact get_same | refine get_other (by omega) ?_))); (focus exact rfl); (focus exact Nat.le_of_ble_eq_true rfl); (focus (first | (simp only [Lk.pv, List.take_zero, List.take_succ_cons, List.take_nil, List.drop_zero, List.drop_succ_cons, List.drop_nil, List.nil_append, List.cons_append, List.append_nil, List.map_cons, List.map_nil, List.replicate_succ, List.replicate_zero, List.flatten_cons, List.flatten_nil, Nat.zero_add, Nat.reduceAdd, chunk]; rfl) | rfl))) | (apply q_store_fn; (focus exact rfl); (focus (repeat (first | exact get_same | refine get_other (by omega) ?_))); (focus exact rfl); (focus exact Nat.le_of_ble_eq_true rfl); (focus (first | (simp only [Lk.pv, List.take_zero, List.take_succ_cons, List.take_nil, List.drop_zero, List.drop_succ_cons, List.drop_nil, List.nil_append, List.cons_append, List.append_nil, List.map_cons, List.map_nil, List.replicate_succ, List.replicate_zero, List.flatten_cons, List.flatten_nil, Nat.zero_add, Nat.reduceAdd, chunk]; rfl) | rfl))))
        | (refine i_lenS ?_; first | refine q_lenS_map rfl ?_ | refine q_lenS rfl ?_)
        | (refine i_ext ?_; first | refine q_ext rfl rfl ?_)
        | (refine i_not ?_; first | refine q_not rfl rfl ?_)
        | (refine i_eqB ?_; first | refine q_eqB rfl rfl rfl ?_)
        | (refine i_pick ?_; first | refine q_pick_t rfl ?_ | refine q_pick_f rfl ?_)
        | (refine i_alloc ?_; first | (refine q_alloc fun k hk => ?_))
        | (refine i_build ?_; first | (apply q_build; (focus (repeat' (first | exact fill_nil | (apply fill_p rfl (Nat.le_of_ble_eq_true rfl); (focus (first | (simp only [Lk.pv, List.take_zero, List.take_succ_cons, List.take_nil, List.drop_zero, List.drop_succ_cons, List.drop_nil, List.nil_append, List.cons_append, List.append_nil, List.map_cons, List.map_nil, List.replicate_succ, List.replicate_zero, List.flatten_cons, List.flatten_nil, Nat.zero_add, Nat.reduceAdd, chunk]; rfl) | rfl))) | (apply fill_agg; (focus rfl); (focus rfl); (focus exact Nat.le_of_ble_eq_true rfl); (focus (first | (simp only [Lk.pv, List.take_zero, List.take_succ_cons, List.take_nil, List.drop_zero, List.drop_succ_cons, List.drop_nil, List.nil_append, List.cons_append, List.append_nil, List.map_cons, List.map_nil, List.replicate_succ, List.replicate_zero, List.flatten_cons, List.flatten_nil, Nat.zero_add, Nat.reduceAdd, chunk]; rfl) | rfl))) | (apply fill_sl rfl (Nat.le_of_ble_eq_true rfl); (focus (first | (simp only [Lk.pv, List.take_zero, List.take_succ_cons, List.take_nil, List.drop_zero, List.drop_succ_cons, List.drop_nil, List.nil_append, List.cons_append, List.append_nil, List.map_cons, List.map_nil, List.replicate_succ, List.replicate_zero, List.flatten_cons, List.flatten_nil, Nat.zero_add, Nat.reduceAdd, chunk]; rfl) | rfl))) | (apply fill_fn rfl (Nat.le_of_ble_eq_true rfl); (focus (first | (simp only [Lk.pv, List.take_zero, List.take_succ_cons, List.take_nil, List.drop_zero, List.drop_succ_cons, List.drop_nil, List.nil_append, List.cons_append, List.append_nil, List.map_cons, List.map_nil, List.replicate_succ, List.replicate_zero, List.flatten_cons, List.flatten_nil, Nat.zero_add, Nat.reduceAdd, chunk]; rfl) | rfl))) | (apply fill_ptr rfl (Nat.le_of_ble_eq_true rfl); (focus (first | (simp only [Lk.pv, List.take_zero, List.take_succ_cons, List.take_nil, List.drop_zero, List.drop_succ_cons, List.drop_nil, List.nil_append, List.cons_append, List.append_nil, List.map_cons, List.map_nil, List.replicate_succ, List.replicate_zero, List.flatten_cons, List.flatten_nil, Nat.zero_add, Nat.reduceAdd, chunk]; rfl) | rfl))))))))
        | (refine i_arith _ ?_; first
          | (refine i_arith .lss ?_; first | refine q_lss rfl rfl (fun h => ?_) (fun h => ?_))
          | (refine i_arith .gtr ?_; first | refine q_gtr rfl rfl (fun h => ?_) (fun h => ?_))))
      | (refine i_guard ?_; first | refine q_on rfl ?_ | refine q_off rfl rfl ?_ | refine q_off_tup rfl ?_))
    | refine q_nil ?_
    | (refine i_awp ?_; first | refine q_seq ?_ | (refine q_reg fun n' hn' => ?_; simp only [List.length_cons, List.length_nil, Nat.zero_add, Nat.reduceAdd] at hn') | refine q_cond_t rfl ?_ | refine q_cond_f rfl ?_ | refine q_ret ?_ | refine q_skip ?_)
    | refine q_normal ?_
    | refine q_seq_ret ?_
    )
  all_goals first
    | (refine q_fin_bool hwf rfl ?_ ?_ ?_; (focus (rfl)); (focus (first | trivial | (simp only [keysP, and_true]; omega) | (repeat' (first | exact trivial | refine ⟨by omega, ?_⟩ | refine keys_vecB (fun k hk => by have := htk k hk; omega) ?_)))); omega)
    | (refine q_fin_bool hwf rfl ?_ ?_ ?_; (focus (simp)); (focus (first | trivial | (simp only [keysP, and_true]; omega) | (repeat' (first | exact trivial | refine ⟨by omega, ?_⟩ | refine keys_vecB (fun k hk => by have := htk k hk; omega) ?_)))); omega)
    | (refine q_fin_bool hwf rfl ?_ ?_ ?_; (focus (rw [windL_out (by first | (left; assumption) | (right; omega))]; rfl)); (focus (first | trivial | (simp only [keysP, and_true]; omega) | (repeat' (first | exact trivial | refine ⟨by omega, ?_⟩ | refine keys_vecB (fun k hk => by have := htk k hk; omega) ?_)))); omega)
end Go.Proofs.Ytinenepjloodcaa

