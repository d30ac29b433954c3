/- CONTRACTS: layer 17's statement PickOrders: it answers true. -/
import Derived.Test.YtakjakmhecfmiaaCwSPf
set_option linter.unusedVariables false
set_option linter.unusedSimpArgs false
set_option maxHeartbeats 8000000
set_option maxRecDepth 20000
namespace Go.Proofs.Ytakjakmhecfmiaa
open Go.Cw

theorem gcmp_eq (p q : Pt) : gcmp p q = if lessP p q then -1 else if lessP q p then 1 else 0 := by
  simp only [gcmp, orI, cmpI, lessP]
  by_cases h1 : p.x < q.x
  · simp [h1]
  · by_cases h2 : q.x < p.x
    · simp [h1, h2]; omega
    · have h3 : p.x = q.x := by omega
      by_cases h4 : p.y < q.y
      · simp [h3, h4]
      · by_cases h5 : q.y < p.y <;> simp [h3, h4, h5]
theorem less_asymm {p q : Pt} (h : lessP p q = true) : lessP q p = false := by
  simp only [lessP, Bool.or_eq_true, Bool.and_eq_true, decide_eq_true_eq] at h
  cases hq : lessP q p
  · rfl
  · simp only [lessP, Bool.or_eq_true, Bool.and_eq_true, decide_eq_true_eq] at hq; omega
theorem less_tri {p q : Pt} (h : lessP p q = false) (h' : lessP q p = false) : p = q := by
  simp only [lessP, Bool.or_eq_false_iff, Bool.and_eq_false_iff, decide_eq_false_iff_not] at h h'
  cases p; cases q
  simp only [Pt.mk.injEq] at *
  omega
theorem less_irrefl (p : Pt) : lessP p p = false := by simp [lessP]

theorem hcmp_eq (a b : Hf) : hcmp a b = if aheadH b a then 1 else if aheadH a b then -1 else 0 := by
  simp only [hcmp, orI, gcmp_eq, aheadH]
  by_cases h1 : lessP a.f b.f = true
  · have h2 := less_asymm h1
    have hne : a.f ≠ b.f := fun e => by rw [e, less_irrefl] at h1; cases h1
    have hne' : b.f ≠ a.f := fun e => hne e.symm
    simp [h1, h2, hne, hne']
  · by_cases h2 : lessP b.f a.f = true
    · have hne : a.f ≠ b.f := fun e => by rw [e, less_irrefl] at h2; cases h2
      simp [h1, h2, hne]
    · have e := less_tri (by simpa using h1) (by simpa using h2)
      by_cases h3 : lessP a.t b.t = true
      · have h4 := less_asymm h3
        simp [e, less_irrefl, h3, h4]
      · by_cases h4 : lessP b.t a.t = true <;> simp [e, less_irrefl, h3, h4]
theorem ahead_asymm {a b : Hf} (h : aheadH a b = true) : aheadH b a = false := by
  cases hb : aheadH b a
  · rfl
  · exfalso
    simp only [aheadH, Bool.or_eq_true, Bool.and_eq_true, decide_eq_true_eq] at h hb
    rcases h with h | ⟨h1, h⟩
    · rcases hb with hb | ⟨h2, _⟩
      · rw [less_asymm h] at hb; cases hb
      · rw [h2, less_irrefl] at h; cases h
    · rcases hb with hb | ⟨_, hb⟩
      · rw [h1, less_irrefl] at hb; cases hb
      · rw [less_asymm h] at hb; cases hb

attribute [local irreducible] aops awp seqQ blockQ seqC loopQ endQ getB outV vecB
theorem specP4 (S : St) (a b : Hf) (nl : Bool) (hs : List Hf) : ASpec Try.prog 4 [.agg [vi a.fx, vi a.fy, vi a.tx, vi a.ty, vi b.fx, vi b.fy, vi b.tx, vi b.ty], .p (.sl nl (hs.map Hf.pv))] S (vb true) S := by
  refine q_fun hmix cP4 rfl (Nat.le_of_ble_eq_true rfl) fun hwf hu => ?_
  repeat' (first
    | refine q_nil_drawn ⟨trivial, trivial⟩ ?_
    | refine q_call (fun S => ASpec.fg (specP6 S)) ?_
    | refine q_call (fun S => ASpec.fg (specP13 S false [a] (by simp))) ?_
    | refine q_call (fun S => ASpec.fg (specP13 S false [b] (by simp))) ?_
    | refine q_call (fun S => ASpec.fg (specP13 S _ hs (by omega))) ?_
    | refine q_iadrS rfl rfl (by decide) rfl rfl ?_
    | (refine q_call_b (fun S => specP14 S a.fx a.fy a.tx a.ty b.fx b.fy b.tx b.ty) (fun (hab : aheadH a b = true) => ?_) (fun (hab : aheadH a b = false) => ?_))
    | (refine q_call_b (fun S => specP14 S b.fx b.fy b.tx b.ty a.fx a.fy a.tx a.ty) (fun (hba : aheadH b a = true) => ?_) (fun (hba : aheadH b a = false) => ?_); all_goals (have e1 := hcmp_eq a b; have e2 := hcmp_eq b a; rw [hab, hba] at e1 e2); all_goals (try (exfalso; rw [ahead_asymm hab] at hba; cases hba; done)); all_goals (simp only [if_true, if_false, Bool.false_eq_true] at e1 e2))
    | refine q_eql rfl rfl (fun h => ?_) (fun h => absurd (by assumption) h)
    | refine q_call (r := vi (hcmp a b)) (fun S => specP9 S a.fx a.fy a.tx a.ty b.fx b.fy b.tx b.ty) ?_
    | refine q_call (r := vi (hcmp b a)) (fun S => specP9 S b.fx b.fy b.tx b.ty a.fx a.fy a.tx a.ty) ?_
    | refine q_call (fun S => ASpec.fg (specP15 S _ hs (by omega))) ?_
    | refine q_call (fun S => specP16 S nl hs (by omega)) ?_
    | refine q_seq ?_
    | (refine q_reg fun n' hn' => ?_; simp only [List.length_cons, List.length_nil, Nat.zero_add, Nat.reduceAdd] at hn')
    | refine q_mov_p rfl ?_
    | refine q_on rfl ?_
    | refine q_off rfl rfl ?_
    | refine q_off_tup rfl ?_
    | refine q_mov_agg rfl ?_
    | refine q_gtr rfl rfl (fun h => ?_) (fun h => ?_)
    | refine q_eql rfl rfl (fun h => ?_) (fun h => ?_)
    | refine q_pick_t rfl ?_
    | refine q_pick_f rfl ?_
    | refine q_nil_drawn trivial ?_
    | refine q_nil_drawn (sep1 rfl rfl (by omega) trivial) ?_
    | refine q_nil_drawn (sep1 rfl rfl (by omega) (sep1 rfl rfl (by omega) trivial)) ?_
    | refine q_nil ?_
    | refine q_normal ?_
    | refine q_cond_t rfl ?_
    | refine q_cond_f rfl ?_
    | refine q_ret ?_
    | refine q_skip ?_
    | refine q_seq_ret ?_
    | refine q_neg rfl (wrap64 (by omega)) ?_
    | refine q_eqB rfl rfl rfl ?_
    | (refine q_alloc fun k hk => ?_)
    | (refine q_box_agg rfl fun k hk => ?_)
    | (refine q_box_p rfl fun k hk => ?_)
    | (refine q_box_sl rfl fun k hk => ?_)
    | (refine q_box_fn rfl fun k hk => ?_)
    | refine q_mov_ptr rfl ?_
    | refine q_mov_ref rfl ?_
    | refine q_mov_sl rfl ?_
    | refine q_mov_fn rfl ?_
    | refine q_loadA_ref rfl (Nat.le_of_ble_eq_true rfl) (by first | (simp only [Lk.pv, Sd.pv, Hf.pv, List.take_zero, List.take_succ_cons, List.take_nil, List.drop_zero, List.drop_succ_cons, List.drop_nil, List.nil_append, List.cons_append, List.append_nil, List.map_cons, List.map_nil, List.replicate_succ, List.replicate_zero, List.flatten_cons, List.flatten_nil, Nat.zero_add, Nat.reduceAdd, chunk]; rfl) | rfl) ?_
    | refine q_loadA rfl (by repeat (first | exact get_same | refine get_other (by omega) ?_)) (Nat.le_of_ble_eq_true rfl) (by first | (simp only [Lk.pv, Sd.pv, Hf.pv, List.take_zero, List.take_succ_cons, List.take_nil, List.drop_zero, List.drop_succ_cons, List.drop_nil, List.nil_append, List.cons_append, List.append_nil, List.map_cons, List.map_nil, List.replicate_succ, List.replicate_zero, List.flatten_cons, List.flatten_nil, Nat.zero_add, Nat.reduceAdd, chunk]; rfl) | rfl) ?_
    | refine q_store_agg rfl (by repeat (first | exact get_same | refine get_other (by omega) ?_)) rfl rfl (Nat.le_of_ble_eq_true rfl) (by first | (simp only [Lk.pv, Sd.pv, Hf.pv, List.take_zero, List.take_succ_cons, List.take_nil, List.drop_zero, List.drop_succ_cons, List.drop_nil, List.nil_append, List.cons_append, List.append_nil, List.map_cons, List.map_nil, List.replicate_succ, List.replicate_zero, List.flatten_cons, List.flatten_nil, Nat.zero_add, Nat.reduceAdd, chunk]; rfl) | rfl) ?_
    | refine q_store_p rfl (by repeat (first | exact get_same | refine get_other (by omega) ?_)) rfl (Nat.le_of_ble_eq_true rfl) (by first | (simp only [Lk.pv, Sd.pv, Hf.pv, List.take_zero, List.take_succ_cons, List.take_nil, List.drop_zero, List.drop_succ_cons, List.drop_nil, List.nil_append, List.cons_append, List.append_nil, List.map_cons, List.map_nil, List.replicate_succ, List.replicate_zero, List.flatten_cons, List.flatten_nil, Nat.zero_add, Nat.reduceAdd, chunk]; rfl) | rfl) ?_
    | refine q_store_sl rfl (by repeat (first | exact get_same | refine get_other (by omega) ?_)) rfl (Nat.le_of_ble_eq_true rfl) (by first | (simp only [Lk.pv, Sd.pv, Hf.pv, List.take_zero, List.take_succ_cons, List.take_nil, List.drop_zero, List.drop_succ_cons, List.drop_nil, List.nil_append, List.cons_append, List.append_nil, List.map_cons, List.map_nil, List.replicate_succ, List.replicate_zero, List.flatten_cons, List.flatten_nil, Nat.zero_add, Nat.reduceAdd, chunk]; rfl) | rfl) ?_
    | refine q_store_fn rfl (by repeat (first | exact get_same | refine get_other (by omega) ?_)) rfl (Nat.le_of_ble_eq_true rfl) (by first | (simp only [Lk.pv, Sd.pv, Hf.pv, List.take_zero, List.take_succ_cons, List.take_nil, List.drop_zero, List.drop_succ_cons, List.drop_nil, List.nil_append, List.cons_append, List.append_nil, List.map_cons, List.map_nil, List.replicate_succ, List.replicate_zero, List.flatten_cons, List.flatten_nil, Nat.zero_add, Nat.reduceAdd, chunk]; rfl) | rfl) ?_
    | refine q_lenS_map rfl ?_
    | refine q_lenS rfl ?_
    | refine q_nil_drawn trivial ?_
    | (refine q_drawn fun n' hn' => ?_; simp only [List.length_cons, List.length_nil, Nat.zero_add, Nat.reduceAdd] at hn')
    | refine q_iadrS_nat rfl rfl (get_map (by omega)) rfl ?_
    | refine q_iadrA rfl rfl (by omega) (by omega) rfl ?_
    | refine q_mov_tup rfl ?_
    | (apply q_bslice; (focus (repeat' (first | exact fill_nil | (apply fill_p rfl (Nat.le_of_ble_eq_true rfl); (focus (first | (simp only [Lk.pv, Sd.pv, Hf.pv, List.take_zero, List.take_succ_cons, List.take_nil, List.drop_zero, List.drop_succ_cons, List.drop_nil, List.nil_append, List.cons_append, List.append_nil, List.map_cons, List.map_nil, List.replicate_succ, List.replicate_zero, List.flatten_cons, List.flatten_nil, Nat.zero_add, Nat.reduceAdd, chunk]; rfl) | rfl))) | (apply fill_agg; (focus rfl); (focus rfl); (focus exact Nat.le_of_ble_eq_true rfl); (focus (first | (simp only [Lk.pv, Sd.pv, Hf.pv, List.take_zero, List.take_succ_cons, List.take_nil, List.drop_zero, List.drop_succ_cons, List.drop_nil, List.nil_append, List.cons_append, List.append_nil, List.map_cons, List.map_nil, List.replicate_succ, List.replicate_zero, List.flatten_cons, List.flatten_nil, Nat.zero_add, Nat.reduceAdd, chunk]; rfl) | rfl))) | (apply fill_sl rfl (Nat.le_of_ble_eq_true rfl); (focus (first | (simp only [Lk.pv, Sd.pv, Hf.pv, List.take_zero, List.take_succ_cons, List.take_nil, List.drop_zero, List.drop_succ_cons, List.drop_nil, List.nil_append, List.cons_append, List.append_nil, List.map_cons, List.map_nil, List.replicate_succ, List.replicate_zero, List.flatten_cons, List.flatten_nil, Nat.zero_add, Nat.reduceAdd, chunk]; rfl) | rfl))) | (apply fill_fn rfl (Nat.le_of_ble_eq_true rfl); (focus (first | (simp only [Lk.pv, Sd.pv, Hf.pv, List.take_zero, List.take_succ_cons, List.take_nil, List.drop_zero, List.drop_succ_cons, List.drop_nil, List.nil_append, List.cons_append, List.append_nil, List.map_cons, List.map_nil, List.replicate_succ, List.replicate_zero, List.flatten_cons, List.flatten_nil, Nat.zero_add, Nat.reduceAdd, chunk]; rfl) | rfl))) | (apply fill_ptr rfl (Nat.le_of_ble_eq_true rfl); (focus (first | (simp only [Lk.pv, Sd.pv, Hf.pv, List.take_zero, List.take_succ_cons, List.take_nil, List.drop_zero, List.drop_succ_cons, List.drop_nil, List.nil_append, List.cons_append, List.append_nil, List.map_cons, List.map_nil, List.replicate_succ, List.replicate_zero, List.flatten_cons, List.flatten_nil, Nat.zero_add, Nat.reduceAdd, chunk]; rfl) | rfl)))))); (focus rfl); (focus (first | (simp only [Lk.pv, Sd.pv, Hf.pv, List.take_zero, List.take_succ_cons, List.take_nil, List.drop_zero, List.drop_succ_cons, List.drop_nil, List.nil_append, List.cons_append, List.append_nil, List.map_cons, List.map_nil, List.replicate_succ, List.replicate_zero, List.flatten_cons, List.flatten_nil, Nat.zero_add, Nat.reduceAdd, chunk]; rfl) | rfl)))
    )
  all_goals first
    | (refine q_fin_bool hwf rfl ?_ ?_ ?_; (focus (rfl)); (focus (first | trivial | (simp only [keysP, and_true]; omega) | (repeat' (first | exact trivial | refine ⟨by omega, ?_⟩ | refine keys_vecB (fun k hk => by have := htk k hk; omega) ?_)))); omega)
    | (refine q_fin_bool hwf rfl ?_ ?_ ?_; (focus (simp)); (focus (first | trivial | (simp only [keysP, and_true]; omega) | (repeat' (first | exact trivial | refine ⟨by omega, ?_⟩ | refine keys_vecB (fun k hk => by have := htk k hk; omega) ?_)))); omega)
end Go.Proofs.Ytakjakmhecfmiaa

