/- CONTRACTS: MarkTurned. -/
import Derived.Test.YtinenepjloodcaaCwS9
set_option linter.unusedVariables false
set_option linter.unusedSimpArgs false
set_option maxHeartbeats 16000000
set_option maxRecDepth 20000
namespace Go.Proofs.Ytinenepjloodcaa
open Go.Cw
attribute [local irreducible] aops awp seqQ blockQ seqC loopQ endQ getB outV vecB

section
variable {P : Program} {m : CMode} {os : List AOper} {id : Nat} {F : Nat → AV} {S S0 : St} {K : (Nat → AV) → St → Prop} {d n : Nat} {H : List (Nat × Blk)} {x y c : Opd} {dst : Option Nat}
theorem q_neq_f {k : IntKind} {a b : Int} (hx : evalO F x = .p (.int k a)) (hy : evalO F y = .p (.int k b)) (hb : a = b) (h : aops P m os (id + 1) (upd F d (.p (.bool false))) S K) : aops P m (⟨some d, .arith .neq x y, none⟩ :: os) id F S K :=
  q_neq hx hy (fun e => absurd hb e) (fun _ => h)
theorem q_eqA_nf {L : List (Option IntKind)} {cs ds : List AV} (hx : evalO F x = .agg cs) (hy : evalO F y = .agg ds) (hb : eqCells L cs ds = some true) (h : aops P m os (id + 1) (upd F d (.p (.bool false))) S K) :
    aops P m (⟨some d, .eqA L true x y, none⟩ :: os) id F S K := q_eqA hx hy hb (fun _ => h) (fun e => by cases e)
theorem q_eqB_refl {a : Bool} (hx : evalO F x = .p (.bool a)) (hy : evalO F y = .p (.bool a)) (h : aops P m os (id + 1) (upd F d (.p (.bool true))) S K) : aops P m (⟨some d, .eqB false x y, none⟩ :: os) id F S K :=
  q_eqB hx hy (by simp) h
theorem eqC4 {a b c d : Int} : eqCells [some .i64, some .i64, some .i64, some .i64] [vi a, vi b, vi c, vi d] [vi a, vi b, vi c, vi d] = some true := by simp [eqCells]
theorem eqC2 {a b : Int} : eqCells [some .i64, some .i64] [vi a, vi b] [vi a, vi b] = some true := by simp [eqCells]
theorem wkV_outno {n : Nat} {xs : List (List PV)} {tk : Option Nat} : wkV n (outV xs tk) (.p (.sl tk.isNone xs)) := by unfold outV; exact .no _ _ _
theorem ASpec.out {P : Program} {f : Nat} {xs : List (List PV)} {tk : Option Nat} {r : AV} {S' : St} {more : List AV} (h : ASpec P f (.p (.sl tk.isNone xs) :: more) S r S') : ASpec P f (outV xs tk :: more) S r S' := by
  intro G w vs hS hr
  obtain ⟨v, vs', rfl, h1, h2⟩ := hr.uncons
  refine h G w _ hS (RepL.cons ?_ h2)
  unfold outV at h1
  cases h1 with | sl h1 _ => exact .p h1
end

def Lk.pvN (e : Lk) : List PV := e.ng.pv
def Lk.pvA (e : Lk) : List PV := e.al.pv
def Sd.pvN (s : Sd) : List PV := s.ng.pv
def Sd.pvA (s : Sd) : List PV := s.al.pv

theorem t33N (S : St) (nl : Bool) (l : List Lk) (i : Nat) (hi : l.length ≤ i) : ASpec Try.prog 8 [.p (.sl nl ((l.take i).map Lk.pvN))] S (slOf ((sidesL l).map Sd.pvN)) S := by
  rw [List.take_of_length_le hi]
  have h := spec33 S nl (l.map Lk.ng)
  rw [sidesL_ng, List.map_map, List.map_map] at h
  exact h
theorem t33A (S : St) (nl : Bool) (l : List Lk) (hr : rightL l = true) (i : Nat) (hi : l.length ≤ i) : ASpec Try.prog 8 [.p (.sl nl ((l.take i).map Lk.pvA))] S (slOf ((sidesL l).map Sd.pvA)) S := by
  rw [List.take_of_length_le hi]
  have h := spec33 S nl (l.map Lk.al)
  rw [sidesL_al hr, List.map_map, List.map_map] at h
  exact h
theorem t37N (S : St) (nl : Bool) (l : List Lk) (i : Nat) (hi : l.length ≤ i) (x y : Int) : ASpec Try.prog 13 [.p (.sl nl ((l.take i).map Lk.pvN)), vi x, vi y] S (.tup [.agg [vi (0 - (windL l ⟨x, y⟩).1.1), vi (0 - (windL l ⟨x, y⟩).1.2)], vb (windL l ⟨x, y⟩).2]) S := by
  rw [List.take_of_length_le hi]
  have h := spec37 S nl (l.map Lk.ng) x y
  rw [windL_ng, List.map_map] at h
  exact h
theorem sidesL_len {l : List Lk} (h : rightL l = true) : (sidesL l).length = l.length := by simp only [sidesL, h, if_true]; exact sidesFrom_len l l 0

structure TG where
  i : Nat
  n : Nat
  t1 : Option Nat
  t2 : Option Nat

theorem spec9 (S : St) (nl : Bool) (l : List Lk) (x y : Int) : ASpec Try.prog 6 [.p (.sl nl (l.map Lk.pv)), vi x, vi y] S (vb true) S := by
  refine q_fun hmix c9 rfl (Nat.le_of_ble_eq_true rfl) fun hwf hu => ?_
  repeat' (first
    | refine q_call_b (fun S => ASpec.fg (spec34 S _ l)) (fun hr => ?_) (fun hr => ?_)
    | refine q_call (fun S => spec32 S) ?_
    | refine q_call (fun S => ASpec.fg (spec23 S _ l (by omega))) ?_
    | refine q_seq ?_
    | (refine q_reg fun n' hn' => ?_; simp only [List.length_cons, List.length_nil, Nat.zero_add, Nat.reduceAdd] at hn')
    | refine q_mov_p rfl ?_
    | refine q_on rfl ?_
    | refine q_off rfl rfl ?_
    | refine q_off_tup rfl ?_
    | refine q_mov_agg rfl ?_
    | refine q_lss rfl rfl (fun h => ?_) (fun h => ?_)
    | refine q_leq rfl rfl (fun h => ?_) (fun h => ?_)
    | refine q_gtr rfl rfl (fun h => ?_) (fun h => ?_)
    | refine q_geq rfl rfl (fun h => ?_) (fun h => ?_)
    | refine q_eql rfl rfl (fun h => ?_) (fun h => ?_)
    | refine q_neq rfl rfl (fun h => ?_) (fun h => ?_)
    | refine q_pick_t rfl ?_
    | refine q_pick_f rfl ?_
    | refine q_nil_drawn trivial ?_
    | refine q_nil_drawn (sep1 rfl rfl (by omega) trivial) ?_
    | refine q_nil_drawn (sep1 rfl rfl (by omega) (sep1 rfl rfl (by omega) trivial)) ?_
    | refine q_nil ?_
    | refine q_normal ?_
    | refine q_cond_t rfl ?_
    | refine q_cond_f rfl ?_
    | refine q_block ?_
    | refine q_exit ?_
    | refine q_ret ?_
    | refine q_skip ?_
    | refine q_seq_exit ?_
    | refine q_loop_exit ?_
    | refine q_loop_ret ?_
    | refine q_seq_ret ?_
    | refine q_block_normal ?_
    | refine q_block_ret ?_
    | refine q_block_hit ?_
    | refine q_block_miss rfl ?_
    | refine q_add rfl rfl (wrap64 (by omega)) ?_
    | refine q_sub rfl rfl (wrap64 (by omega)) ?_
    | refine q_mul rfl rfl (wrap64 (by omega)) ?_
    | refine q_mul31 rfl rfl (by omega) (by omega) (fun hm1 hm2 => ?_)
    | refine q_neg rfl (wrap64 (by omega)) ?_
    | refine q_not rfl rfl ?_
    | refine q_eqB rfl rfl rfl ?_
    | (refine q_alloc fun k hk => ?_)
    | (refine q_box_agg rfl fun k hk => ?_)
    | (refine q_box_p rfl fun k hk => ?_)
    | (refine q_box_sl rfl fun k hk => ?_)
    | (refine q_box_fn rfl fun k hk => ?_)
    | refine q_fadr rfl rfl ?_
    | refine q_fadr_ref rfl rfl ?_
    | refine q_mov_ptr rfl ?_
    | refine q_mov_ref rfl ?_
    | refine q_mov_sl rfl ?_
    | refine q_mov_fn rfl ?_
    | refine q_load1_ref rfl rfl ?_
    | refine q_loadA_ref rfl (Nat.le_of_ble_eq_true rfl) (by first | (simp only [Lk.pv, Sd.pv, Lk.ng, Lk.al, Sd.ng, Sd.al, List.take_zero, List.take_succ_cons, List.take_nil, List.drop_zero, List.drop_succ_cons, List.drop_nil, List.nil_append, List.cons_append, List.append_nil, List.map_cons, List.map_nil, List.replicate_succ, List.replicate_zero, List.flatten_cons, List.flatten_nil, Nat.zero_add, Nat.reduceAdd, chunk]; rfl) | rfl) ?_
    | refine q_load1 rfl (by repeat (first | exact get_same | refine get_other (by omega) ?_)) rfl ?_
    | refine q_loadA rfl (by repeat (first | exact get_same | refine get_other (by omega) ?_)) (Nat.le_of_ble_eq_true rfl) (by first | (simp only [Lk.pv, Sd.pv, Lk.ng, Lk.al, Sd.ng, Sd.al, List.take_zero, List.take_succ_cons, List.take_nil, List.drop_zero, List.drop_succ_cons, List.drop_nil, List.nil_append, List.cons_append, List.append_nil, List.map_cons, List.map_nil, List.replicate_succ, List.replicate_zero, List.flatten_cons, List.flatten_nil, Nat.zero_add, Nat.reduceAdd, chunk]; rfl) | rfl) ?_
    | refine q_store_agg rfl (by repeat (first | exact get_same | refine get_other (by omega) ?_)) rfl rfl (Nat.le_of_ble_eq_true rfl) (by first | (simp only [Lk.pv, Sd.pv, Lk.ng, Lk.al, Sd.ng, Sd.al, List.take_zero, List.take_succ_cons, List.take_nil, List.drop_zero, List.drop_succ_cons, List.drop_nil, List.nil_append, List.cons_append, List.append_nil, List.map_cons, List.map_nil, List.replicate_succ, List.replicate_zero, List.flatten_cons, List.flatten_nil, Nat.zero_add, Nat.reduceAdd, chunk]; rfl) | rfl) ?_
    | refine q_store_p rfl (by repeat (first | exact get_same | refine get_other (by omega) ?_)) rfl (Nat.le_of_ble_eq_true rfl) (by first | (simp only [Lk.pv, Sd.pv, Lk.ng, Lk.al, Sd.ng, Sd.al, List.take_zero, List.take_succ_cons, List.take_nil, List.drop_zero, List.drop_succ_cons, List.drop_nil, List.nil_append, List.cons_append, List.append_nil, List.map_cons, List.map_nil, List.replicate_succ, List.replicate_zero, List.flatten_cons, List.flatten_nil, Nat.zero_add, Nat.reduceAdd, chunk]; rfl) | rfl) ?_
    | refine q_store_sl rfl (by repeat (first | exact get_same | refine get_other (by omega) ?_)) rfl (Nat.le_of_ble_eq_true rfl) (by first | (simp only [Lk.pv, Sd.pv, Lk.ng, Lk.al, Sd.ng, Sd.al, List.take_zero, List.take_succ_cons, List.take_nil, List.drop_zero, List.drop_succ_cons, List.drop_nil, List.nil_append, List.cons_append, List.append_nil, List.map_cons, List.map_nil, List.replicate_succ, List.replicate_zero, List.flatten_cons, List.flatten_nil, Nat.zero_add, Nat.reduceAdd, chunk]; rfl) | rfl) ?_
    | refine q_store_fn rfl (by repeat (first | exact get_same | refine get_other (by omega) ?_)) rfl (Nat.le_of_ble_eq_true rfl) (by first | (simp only [Lk.pv, Sd.pv, Lk.ng, Lk.al, Sd.ng, Sd.al, List.take_zero, List.take_succ_cons, List.take_nil, List.drop_zero, List.drop_succ_cons, List.drop_nil, List.nil_append, List.cons_append, List.append_nil, List.map_cons, List.map_nil, List.replicate_succ, List.replicate_zero, List.flatten_cons, List.flatten_nil, Nat.zero_add, Nat.reduceAdd, chunk]; rfl) | rfl) ?_
    | refine q_lenS_map rfl ?_
    | refine q_lenS rfl ?_
    | refine q_nil_drawn trivial ?_
    | (refine q_drawn fun n' hn' => ?_; simp only [List.length_cons, List.length_nil, Nat.zero_add, Nat.reduceAdd] at hn')
    | refine q_iadrS_nat rfl rfl (get_map (by omega)) rfl ?_
    | refine q_iadrA rfl rfl (by omega) (by omega) rfl ?_
    | refine q_ext rfl rfl ?_
    | refine q_min2 rfl rfl ?_
    | refine q_max2 rfl rfl ?_
    | (apply q_build; (focus (repeat' (first | exact fill_nil | (apply fill_p rfl (Nat.le_of_ble_eq_true rfl); (focus (first | (simp only [Lk.pv, Sd.pv, Lk.ng, Lk.al, Sd.ng, Sd.al, List.take_zero, List.take_succ_cons, List.take_nil, List.drop_zero, List.drop_succ_cons, List.drop_nil, List.nil_append, List.cons_append, List.append_nil, List.map_cons, List.map_nil, List.replicate_succ, List.replicate_zero, List.flatten_cons, List.flatten_nil, Nat.zero_add, Nat.reduceAdd, chunk]; rfl) | rfl))) | (apply fill_agg; (focus rfl); (focus rfl); (focus exact Nat.le_of_ble_eq_true rfl); (focus (first | (simp only [Lk.pv, Sd.pv, Lk.ng, Lk.al, Sd.ng, Sd.al, List.take_zero, List.take_succ_cons, List.take_nil, List.drop_zero, List.drop_succ_cons, List.drop_nil, List.nil_append, List.cons_append, List.append_nil, List.map_cons, List.map_nil, List.replicate_succ, List.replicate_zero, List.flatten_cons, List.flatten_nil, Nat.zero_add, Nat.reduceAdd, chunk]; rfl) | rfl))) | (apply fill_sl rfl (Nat.le_of_ble_eq_true rfl); (focus (first | (simp only [Lk.pv, Sd.pv, Lk.ng, Lk.al, Sd.ng, Sd.al, List.take_zero, List.take_succ_cons, List.take_nil, List.drop_zero, List.drop_succ_cons, List.drop_nil, List.nil_append, List.cons_append, List.append_nil, List.map_cons, List.map_nil, List.replicate_succ, List.replicate_zero, List.flatten_cons, List.flatten_nil, Nat.zero_add, Nat.reduceAdd, chunk]; rfl) | rfl))) | (apply fill_fn rfl (Nat.le_of_ble_eq_true rfl); (focus (first | (simp only [Lk.pv, Sd.pv, Lk.ng, Lk.al, Sd.ng, Sd.al, List.take_zero, List.take_succ_cons, List.take_nil, List.drop_zero, List.drop_succ_cons, List.drop_nil, List.nil_append, List.cons_append, List.append_nil, List.map_cons, List.map_nil, List.replicate_succ, List.replicate_zero, List.flatten_cons, List.flatten_nil, Nat.zero_add, Nat.reduceAdd, chunk]; rfl) | rfl))) | (apply fill_ptr rfl (Nat.le_of_ble_eq_true rfl); (focus (first | (simp only [Lk.pv, Sd.pv, Lk.ng, Lk.al, Sd.ng, Sd.al, List.take_zero, List.take_succ_cons, List.take_nil, List.drop_zero, List.drop_succ_cons, List.drop_nil, List.nil_append, List.cons_append, List.append_nil, List.map_cons, List.map_nil, List.replicate_succ, List.replicate_zero, List.flatten_cons, List.flatten_nil, Nat.zero_add, Nat.reduceAdd, chunk]; rfl) | rfl)))))))
    | refine q_mov_out rfl ?_
    | refine q_mov_tup rfl ?_
    | (apply q_bslice; (focus (repeat' (first | exact fill_nil | (apply fill_p rfl (Nat.le_of_ble_eq_true rfl); (focus (first | (simp only [Lk.pv, Sd.pv, Lk.ng, Lk.al, Sd.ng, Sd.al, List.take_zero, List.take_succ_cons, List.take_nil, List.drop_zero, List.drop_succ_cons, List.drop_nil, List.nil_append, List.cons_append, List.append_nil, List.map_cons, List.map_nil, List.replicate_succ, List.replicate_zero, List.flatten_cons, List.flatten_nil, Nat.zero_add, Nat.reduceAdd, chunk]; rfl) | rfl))) | (apply fill_agg; (focus rfl); (focus rfl); (focus exact Nat.le_of_ble_eq_true rfl); (focus (first | (simp only [Lk.pv, Sd.pv, Lk.ng, Lk.al, Sd.ng, Sd.al, List.take_zero, List.take_succ_cons, List.take_nil, List.drop_zero, List.drop_succ_cons, List.drop_nil, List.nil_append, List.cons_append, List.append_nil, List.map_cons, List.map_nil, List.replicate_succ, List.replicate_zero, List.flatten_cons, List.flatten_nil, Nat.zero_add, Nat.reduceAdd, chunk]; rfl) | rfl))) | (apply fill_sl rfl (Nat.le_of_ble_eq_true rfl); (focus (first | (simp only [Lk.pv, Sd.pv, Lk.ng, Lk.al, Sd.ng, Sd.al, List.take_zero, List.take_succ_cons, List.take_nil, List.drop_zero, List.drop_succ_cons, List.drop_nil, List.nil_append, List.cons_append, List.append_nil, List.map_cons, List.map_nil, List.replicate_succ, List.replicate_zero, List.flatten_cons, List.flatten_nil, Nat.zero_add, Nat.reduceAdd, chunk]; rfl) | rfl))) | (apply fill_fn rfl (Nat.le_of_ble_eq_true rfl); (focus (first | (simp only [Lk.pv, Sd.pv, Lk.ng, Lk.al, Sd.ng, Sd.al, List.take_zero, List.take_succ_cons, List.take_nil, List.drop_zero, List.drop_succ_cons, List.drop_nil, List.nil_append, List.cons_append, List.append_nil, List.map_cons, List.map_nil, List.replicate_succ, List.replicate_zero, List.flatten_cons, List.flatten_nil, Nat.zero_add, Nat.reduceAdd, chunk]; rfl) | rfl))) | (apply fill_ptr rfl (Nat.le_of_ble_eq_true rfl); (focus (first | (simp only [Lk.pv, Sd.pv, Lk.ng, Lk.al, Sd.ng, Sd.al, List.take_zero, List.take_succ_cons, List.take_nil, List.drop_zero, List.drop_succ_cons, List.drop_nil, List.nil_append, List.cons_append, List.append_nil, List.map_cons, List.map_nil, List.replicate_succ, List.replicate_zero, List.flatten_cons, List.flatten_nil, Nat.zero_add, Nat.reduceAdd, chunk]; rfl) | rfl)))))); (focus rfl); (focus (first | (simp only [Lk.pv, Sd.pv, Lk.ng, Lk.al, Sd.ng, Sd.al, List.take_zero, List.take_succ_cons, List.take_nil, List.drop_zero, List.drop_succ_cons, List.drop_nil, List.nil_append, List.cons_append, List.append_nil, List.map_cons, List.map_nil, List.replicate_succ, List.replicate_zero, List.flatten_cons, List.flatten_nil, Nat.zero_add, Nat.reduceAdd, chunk]; rfl) | rfl)))
    | (apply q_mkfn; (focus (repeat' (first | exact mapE_nil | (apply mapE_p; (focus rfl)) | (apply mapE_ptr; (focus rfl)) | (apply mapE_ref; (focus rfl)) | (apply mapE_agg; (focus rfl)) | (apply mapE_fn; (focus rfl)) | (apply mapE_sl; (focus rfl))))))
    )
  · (refine q_fin_bool hwf rfl ?_ ?_ ?_; (focus (rfl)); (focus (first | trivial | (simp only [keysP, and_true]; omega) | (repeat' (first | exact trivial | refine ⟨by omega, ?_⟩ | exact keys_vecB (fun k hk => by have := htk k hk; omega) trivial)))); omega)
  rotate_right 1
  · (refine q_fin_bool hwf rfl ?_ ?_ ?_; (focus (rfl)); (focus (first | trivial | (simp only [keysP, and_true]; omega) | (repeat' (first | exact trivial | refine ⟨by omega, ?_⟩ | exact keys_vecB (fun k hk => by have := htk k hk; omega) trivial)))); omega)
  have hbd := rightL_bd hr
  have hsl := sidesL_len hr
  refine q_loop (γ := TG) (fun g => [(1, vi x), (2, vi y), (0, .p (.sl nl (l.map Lk.pv))), (7, slOf (l.map Lk.pv)), (8, outV ((l.take g.i).map Lk.pvN) g.t1), (9, outV ((l.take g.i).map Lk.pvA) g.t2), (33, slOf (l.map Lk.pv)), (34, vi (l.length : Nat)), (35, vi g.i)]) (fun g => ST S g.n (vecB g.t1 g.i 6 (vecB g.t2 g.i 6 [])))
    (fun g => g.i ≤ l.length ∧ n' ≤ g.n ∧ (∀ k, g.t1 = some k → n' ≤ k ∧ k < g.n) ∧ (∀ k, g.t2 = some k → n' ≤ k ∧ k < g.n) ∧ (∀ k1 k2, g.t1 = some k1 → g.t2 = some k2 → k1 ≠ k2)) (fun g => l.length - g.i) ⟨0, n', none, none⟩ (by simp) ?_ ?_
  · exact wk_mk hwf (by simp only; omega) (by simp) (by first | trivial | (simp only [keysP, and_true]; omega) | (repeat' (first | exact trivial | refine ⟨by omega, ?_⟩ | exact keys_vecB (fun k hk => by have := htk k hk; omega) trivial))) (blks_vecB (fun k hk => by cases hk) (blks_vecB (fun k hk => by cases hk) trivial)) (by simp only [fitsP]; repeat' (first | exact trivial | refine ⟨?_, ?_⟩ | exact .same trivial | exact wkV_out0 | exact wkV_out_eq hout (by omega) | exact wkV_ptr (by omega) | exact .same (under_mono (by omega) hu.1) | exact .same (under_mono (by omega) hu.2.1) | exact .same (under_mono (by omega) hu.2.2.1) | exact wkV_int (by omega) | exact wkV_int (by simp) | exact .no _ _ _))
  · rintro ⟨i, n0, t1, t2⟩ ⟨hi, hn0, ht1, ht2, hdis⟩
    dsimp only at *
    have hl1 : ((l.take i).map Lk.pvN).length = i := by rw [List.length_map, List.length_take]; omega
    have hl2 : ((l.take i).map Lk.pvA).length = i := by rw [List.length_map, List.length_take]; omega
    repeat' (first
      | (refine q_iadrS_nat rfl rfl (get_map (by omega)) rfl ?_; have hz := hbd i (by omega))
      | refine q_seq ?_
      | (refine q_reg fun n' hn' => ?_; simp only [List.length_cons, List.length_nil, Nat.zero_add, Nat.reduceAdd] at hn')
      | refine q_mov_p rfl ?_
      | refine q_on rfl ?_
      | refine q_off rfl rfl ?_
      | refine q_off_tup rfl ?_
      | refine q_mov_agg rfl ?_
      | refine q_lss rfl rfl (fun h => ?_) (fun h => ?_)
      | refine q_leq rfl rfl (fun h => ?_) (fun h => ?_)
      | refine q_gtr rfl rfl (fun h => ?_) (fun h => ?_)
      | refine q_geq rfl rfl (fun h => ?_) (fun h => ?_)
      | refine q_eql rfl rfl (fun h => ?_) (fun h => ?_)
      | refine q_neq rfl rfl (fun h => ?_) (fun h => ?_)
      | refine q_pick_t rfl ?_
      | refine q_pick_f rfl ?_
      | refine q_nil_drawn trivial ?_
      | refine q_nil_drawn (sep1 rfl rfl (by omega) trivial) ?_
      | refine q_nil_drawn (sep1 rfl rfl (by omega) (sep1 rfl rfl (by omega) trivial)) ?_
      | refine q_nil ?_
      | refine q_normal ?_
      | refine q_cond_t rfl ?_
      | refine q_cond_f rfl ?_
      | refine q_block ?_
      | refine q_exit ?_
      | refine q_ret ?_
      | refine q_skip ?_
      | refine q_seq_exit ?_
      | refine q_loop_exit ?_
      | refine q_loop_ret ?_
      | refine q_seq_ret ?_
      | refine q_block_normal ?_
      | refine q_block_ret ?_
      | refine q_block_hit ?_
      | refine q_block_miss rfl ?_
      | refine q_add rfl rfl (wrap64 (by omega)) ?_
      | refine q_sub rfl rfl (wrap64 (by omega)) ?_
      | refine q_mul rfl rfl (wrap64 (by omega)) ?_
      | refine q_mul31 rfl rfl (by omega) (by omega) (fun hm1 hm2 => ?_)
      | refine q_neg rfl (wrap64 (by omega)) ?_
      | refine q_not rfl rfl ?_
      | refine q_eqB rfl rfl rfl ?_
      | (refine q_alloc fun k hk => ?_)
      | (refine q_box_agg rfl fun k hk => ?_)
      | (refine q_box_p rfl fun k hk => ?_)
      | (refine q_box_sl rfl fun k hk => ?_)
      | (refine q_box_fn rfl fun k hk => ?_)
      | refine q_fadr rfl rfl ?_
      | refine q_fadr_ref rfl rfl ?_
      | refine q_mov_ptr rfl ?_
      | refine q_mov_ref rfl ?_
      | refine q_mov_sl rfl ?_
      | refine q_mov_fn rfl ?_
      | refine q_load1_ref rfl rfl ?_
      | refine q_loadA_ref rfl (Nat.le_of_ble_eq_true rfl) (by first | (simp only [Lk.pv, Sd.pv, Lk.ng, Lk.al, Sd.ng, Sd.al, List.take_zero, List.take_succ_cons, List.take_nil, List.drop_zero, List.drop_succ_cons, List.drop_nil, List.nil_append, List.cons_append, List.append_nil, List.map_cons, List.map_nil, List.replicate_succ, List.replicate_zero, List.flatten_cons, List.flatten_nil, Nat.zero_add, Nat.reduceAdd, chunk]; rfl) | rfl) ?_
      | refine q_load1 rfl (by repeat (first | exact get_same | refine get_other (by omega) ?_)) rfl ?_
      | refine q_loadA rfl (by repeat (first | exact get_same | refine get_other (by omega) ?_)) (Nat.le_of_ble_eq_true rfl) (by first | (simp only [Lk.pv, Sd.pv, Lk.ng, Lk.al, Sd.ng, Sd.al, List.take_zero, List.take_succ_cons, List.take_nil, List.drop_zero, List.drop_succ_cons, List.drop_nil, List.nil_append, List.cons_append, List.append_nil, List.map_cons, List.map_nil, List.replicate_succ, List.replicate_zero, List.flatten_cons, List.flatten_nil, Nat.zero_add, Nat.reduceAdd, chunk]; rfl) | rfl) ?_
      | refine q_store_agg rfl (by repeat (first | exact get_same | refine get_other (by omega) ?_)) rfl rfl (Nat.le_of_ble_eq_true rfl) (by first | (simp only [Lk.pv, Sd.pv, Lk.ng, Lk.al, Sd.ng, Sd.al, List.take_zero, List.take_succ_cons, List.take_nil, List.drop_zero, List.drop_succ_cons, List.drop_nil, List.nil_append, List.cons_append, List.append_nil, List.map_cons, List.map_nil, List.replicate_succ, List.replicate_zero, List.flatten_cons, List.flatten_nil, Nat.zero_add, Nat.reduceAdd, chunk]; rfl) | rfl) ?_
      | refine q_store_p rfl (by repeat (first | exact get_same | refine get_other (by omega) ?_)) rfl (Nat.le_of_ble_eq_true rfl) (by first | (simp only [Lk.pv, Sd.pv, Lk.ng, Lk.al, Sd.ng, Sd.al, List.take_zero, List.take_succ_cons, List.take_nil, List.drop_zero, List.drop_succ_cons, List.drop_nil, List.nil_append, List.cons_append, List.append_nil, List.map_cons, List.map_nil, List.replicate_succ, List.replicate_zero, List.flatten_cons, List.flatten_nil, Nat.zero_add, Nat.reduceAdd, chunk]; rfl) | rfl) ?_
      | refine q_store_sl rfl (by repeat (first | exact get_same | refine get_other (by omega) ?_)) rfl (Nat.le_of_ble_eq_true rfl) (by first | (simp only [Lk.pv, Sd.pv, Lk.ng, Lk.al, Sd.ng, Sd.al, List.take_zero, List.take_succ_cons, List.take_nil, List.drop_zero, List.drop_succ_cons, List.drop_nil, List.nil_append, List.cons_append, List.append_nil, List.map_cons, List.map_nil, List.replicate_succ, List.replicate_zero, List.flatten_cons, List.flatten_nil, Nat.zero_add, Nat.reduceAdd, chunk]; rfl) | rfl) ?_
      | refine q_store_fn rfl (by repeat (first | exact get_same | refine get_other (by omega) ?_)) rfl (Nat.le_of_ble_eq_true rfl) (by first | (simp only [Lk.pv, Sd.pv, Lk.ng, Lk.al, Sd.ng, Sd.al, List.take_zero, List.take_succ_cons, List.take_nil, List.drop_zero, List.drop_succ_cons, List.drop_nil, List.nil_append, List.cons_append, List.append_nil, List.map_cons, List.map_nil, List.replicate_succ, List.replicate_zero, List.flatten_cons, List.flatten_nil, Nat.zero_add, Nat.reduceAdd, chunk]; rfl) | rfl) ?_
      | refine q_lenS_map rfl ?_
      | refine q_lenS rfl ?_
      | refine q_nil_drawn trivial ?_
      | (refine q_drawn fun n' hn' => ?_; simp only [List.length_cons, List.length_nil, Nat.zero_add, Nat.reduceAdd] at hn')
      | refine q_iadrS_nat rfl rfl (get_map (by omega)) rfl ?_
      | refine q_iadrA rfl rfl (by omega) (by omega) rfl ?_
      | refine q_ext rfl rfl ?_
      | refine q_min2 rfl rfl ?_
      | refine q_max2 rfl rfl ?_
      | (apply q_build; (focus (repeat' (first | exact fill_nil | (apply fill_p rfl (Nat.le_of_ble_eq_true rfl); (focus (first | (simp only [Lk.pv, Sd.pv, Lk.ng, Lk.al, Sd.ng, Sd.al, List.take_zero, List.take_succ_cons, List.take_nil, List.drop_zero, List.drop_succ_cons, List.drop_nil, List.nil_append, List.cons_append, List.append_nil, List.map_cons, List.map_nil, List.replicate_succ, List.replicate_zero, List.flatten_cons, List.flatten_nil, Nat.zero_add, Nat.reduceAdd, chunk]; rfl) | rfl))) | (apply fill_agg; (focus rfl); (focus rfl); (focus exact Nat.le_of_ble_eq_true rfl); (focus (first | (simp only [Lk.pv, Sd.pv, Lk.ng, Lk.al, Sd.ng, Sd.al, List.take_zero, List.take_succ_cons, List.take_nil, List.drop_zero, List.drop_succ_cons, List.drop_nil, List.nil_append, List.cons_append, List.append_nil, List.map_cons, List.map_nil, List.replicate_succ, List.replicate_zero, List.flatten_cons, List.flatten_nil, Nat.zero_add, Nat.reduceAdd, chunk]; rfl) | rfl))) | (apply fill_sl rfl (Nat.le_of_ble_eq_true rfl); (focus (first | (simp only [Lk.pv, Sd.pv, Lk.ng, Lk.al, Sd.ng, Sd.al, List.take_zero, List.take_succ_cons, List.take_nil, List.drop_zero, List.drop_succ_cons, List.drop_nil, List.nil_append, List.cons_append, List.append_nil, List.map_cons, List.map_nil, List.replicate_succ, List.replicate_zero, List.flatten_cons, List.flatten_nil, Nat.zero_add, Nat.reduceAdd, chunk]; rfl) | rfl))) | (apply fill_fn rfl (Nat.le_of_ble_eq_true rfl); (focus (first | (simp only [Lk.pv, Sd.pv, Lk.ng, Lk.al, Sd.ng, Sd.al, List.take_zero, List.take_succ_cons, List.take_nil, List.drop_zero, List.drop_succ_cons, List.drop_nil, List.nil_append, List.cons_append, List.append_nil, List.map_cons, List.map_nil, List.replicate_succ, List.replicate_zero, List.flatten_cons, List.flatten_nil, Nat.zero_add, Nat.reduceAdd, chunk]; rfl) | rfl))) | (apply fill_ptr rfl (Nat.le_of_ble_eq_true rfl); (focus (first | (simp only [Lk.pv, Sd.pv, Lk.ng, Lk.al, Sd.ng, Sd.al, List.take_zero, List.take_succ_cons, List.take_nil, List.drop_zero, List.drop_succ_cons, List.drop_nil, List.nil_append, List.cons_append, List.append_nil, List.map_cons, List.map_nil, List.replicate_succ, List.replicate_zero, List.flatten_cons, List.flatten_nil, Nat.zero_add, Nat.reduceAdd, chunk]; rfl) | rfl)))))))
      | refine q_mov_out rfl ?_
      | refine q_mov_tup rfl ?_
      | (apply q_bslice; (focus (repeat' (first | exact fill_nil | (apply fill_p rfl (Nat.le_of_ble_eq_true rfl); (focus (first | (simp only [Lk.pv, Sd.pv, Lk.ng, Lk.al, Sd.ng, Sd.al, List.take_zero, List.take_succ_cons, List.take_nil, List.drop_zero, List.drop_succ_cons, List.drop_nil, List.nil_append, List.cons_append, List.append_nil, List.map_cons, List.map_nil, List.replicate_succ, List.replicate_zero, List.flatten_cons, List.flatten_nil, Nat.zero_add, Nat.reduceAdd, chunk]; rfl) | rfl))) | (apply fill_agg; (focus rfl); (focus rfl); (focus exact Nat.le_of_ble_eq_true rfl); (focus (first | (simp only [Lk.pv, Sd.pv, Lk.ng, Lk.al, Sd.ng, Sd.al, List.take_zero, List.take_succ_cons, List.take_nil, List.drop_zero, List.drop_succ_cons, List.drop_nil, List.nil_append, List.cons_append, List.append_nil, List.map_cons, List.map_nil, List.replicate_succ, List.replicate_zero, List.flatten_cons, List.flatten_nil, Nat.zero_add, Nat.reduceAdd, chunk]; rfl) | rfl))) | (apply fill_sl rfl (Nat.le_of_ble_eq_true rfl); (focus (first | (simp only [Lk.pv, Sd.pv, Lk.ng, Lk.al, Sd.ng, Sd.al, List.take_zero, List.take_succ_cons, List.take_nil, List.drop_zero, List.drop_succ_cons, List.drop_nil, List.nil_append, List.cons_append, List.append_nil, List.map_cons, List.map_nil, List.replicate_succ, List.replicate_zero, List.flatten_cons, List.flatten_nil, Nat.zero_add, Nat.reduceAdd, chunk]; rfl) | rfl))) | (apply fill_fn rfl (Nat.le_of_ble_eq_true rfl); (focus (first | (simp only [Lk.pv, Sd.pv, Lk.ng, Lk.al, Sd.ng, Sd.al, List.take_zero, List.take_succ_cons, List.take_nil, List.drop_zero, List.drop_succ_cons, List.drop_nil, List.nil_append, List.cons_append, List.append_nil, List.map_cons, List.map_nil, List.replicate_succ, List.replicate_zero, List.flatten_cons, List.flatten_nil, Nat.zero_add, Nat.reduceAdd, chunk]; rfl) | rfl))) | (apply fill_ptr rfl (Nat.le_of_ble_eq_true rfl); (focus (first | (simp only [Lk.pv, Sd.pv, Lk.ng, Lk.al, Sd.ng, Sd.al, List.take_zero, List.take_succ_cons, List.take_nil, List.drop_zero, List.drop_succ_cons, List.drop_nil, List.nil_append, List.cons_append, List.append_nil, List.map_cons, List.map_nil, List.replicate_succ, List.replicate_zero, List.flatten_cons, List.flatten_nil, Nat.zero_add, Nat.reduceAdd, chunk]; rfl) | rfl)))))); (focus rfl); (focus (first | (simp only [Lk.pv, Sd.pv, Lk.ng, Lk.al, Sd.ng, Sd.al, List.take_zero, List.take_succ_cons, List.take_nil, List.drop_zero, List.drop_succ_cons, List.drop_nil, List.nil_append, List.cons_append, List.append_nil, List.map_cons, List.map_nil, List.replicate_succ, List.replicate_zero, List.flatten_cons, List.flatten_nil, Nat.zero_add, Nat.reduceAdd, chunk]; rfl) | rfl)))
      | (apply q_mkfn; (focus (repeat' (first | exact mapE_nil | (apply mapE_p; (focus rfl)) | (apply mapE_ptr; (focus rfl)) | (apply mapE_ref; (focus rfl)) | (apply mapE_agg; (focus rfl)) | (apply mapE_fn; (focus rfl)) | (apply mapE_sl; (focus rfl))))))
      )
    · refine q_append_out (tk := t1) rfl rfl (rows_len (pv := Lk.pvN) (fun _ => rfl) _) rfl (by omega) (by omega) (fun k hk => by have := ht1 k hk; rw [hl1]; (repeat (refine get_other (by omega) ?_)); exact get_vecB_self k hk) (fun k9 hk9 => ?_)
      have hb9 : k9 < n' ∧ S.n ≤ k9 ∧ k9 ≠ k := by
        rcases hk9 with ⟨_, h5⟩ | h5
        · omega
        · have := ht1 _ h5; omega
      repeat' (first
        | refine q_seq ?_
        | (refine q_reg fun n' hn' => ?_; simp only [List.length_cons, List.length_nil, Nat.zero_add, Nat.reduceAdd] at hn')
        | refine q_mov_p rfl ?_
        | refine q_on rfl ?_
        | refine q_off rfl rfl ?_
        | refine q_off_tup rfl ?_
        | refine q_mov_agg rfl ?_
        | refine q_lss rfl rfl (fun h => ?_) (fun h => ?_)
        | refine q_leq rfl rfl (fun h => ?_) (fun h => ?_)
        | refine q_gtr rfl rfl (fun h => ?_) (fun h => ?_)
        | refine q_geq rfl rfl (fun h => ?_) (fun h => ?_)
        | refine q_eql rfl rfl (fun h => ?_) (fun h => ?_)
        | refine q_neq rfl rfl (fun h => ?_) (fun h => ?_)
        | refine q_pick_t rfl ?_
        | refine q_pick_f rfl ?_
        | refine q_nil_drawn trivial ?_
        | refine q_nil_drawn (sep1 rfl rfl (by omega) trivial) ?_
        | refine q_nil_drawn (sep1 rfl rfl (by omega) (sep1 rfl rfl (by omega) trivial)) ?_
        | refine q_nil ?_
        | refine q_normal ?_
        | refine q_cond_t rfl ?_
        | refine q_cond_f rfl ?_
        | refine q_block ?_
        | refine q_exit ?_
        | refine q_ret ?_
        | refine q_skip ?_
        | refine q_seq_exit ?_
        | refine q_loop_exit ?_
        | refine q_loop_ret ?_
        | refine q_seq_ret ?_
        | refine q_block_normal ?_
        | refine q_block_ret ?_
        | refine q_block_hit ?_
        | refine q_block_miss rfl ?_
        | refine q_add rfl rfl (wrap64 (by omega)) ?_
        | refine q_sub rfl rfl (wrap64 (by omega)) ?_
        | refine q_mul rfl rfl (wrap64 (by omega)) ?_
        | refine q_mul31 rfl rfl (by omega) (by omega) (fun hm1 hm2 => ?_)
        | refine q_neg rfl (wrap64 (by omega)) ?_
        | refine q_not rfl rfl ?_
        | refine q_eqB rfl rfl rfl ?_
        | (refine q_alloc fun k hk => ?_)
        | (refine q_box_agg rfl fun k hk => ?_)
        | (refine q_box_p rfl fun k hk => ?_)
        | (refine q_box_sl rfl fun k hk => ?_)
        | (refine q_box_fn rfl fun k hk => ?_)
        | refine q_fadr rfl rfl ?_
        | refine q_fadr_ref rfl rfl ?_
        | refine q_mov_ptr rfl ?_
        | refine q_mov_ref rfl ?_
        | refine q_mov_sl rfl ?_
        | refine q_mov_fn rfl ?_
        | refine q_load1_ref rfl rfl ?_
        | refine q_loadA_ref rfl (Nat.le_of_ble_eq_true rfl) (by first | (simp only [Lk.pv, Sd.pv, Lk.ng, Lk.al, Sd.ng, Sd.al, List.take_zero, List.take_succ_cons, List.take_nil, List.drop_zero, List.drop_succ_cons, List.drop_nil, List.nil_append, List.cons_append, List.append_nil, List.map_cons, List.map_nil, List.replicate_succ, List.replicate_zero, List.flatten_cons, List.flatten_nil, Nat.zero_add, Nat.reduceAdd, chunk]; rfl) | rfl) ?_
        | refine q_load1 rfl (by repeat (first | exact get_same | refine get_other (by omega) ?_)) rfl ?_
        | refine q_loadA rfl (by repeat (first | exact get_same | refine get_other (by omega) ?_)) (Nat.le_of_ble_eq_true rfl) (by first | (simp only [Lk.pv, Sd.pv, Lk.ng, Lk.al, Sd.ng, Sd.al, List.take_zero, List.take_succ_cons, List.take_nil, List.drop_zero, List.drop_succ_cons, List.drop_nil, List.nil_append, List.cons_append, List.append_nil, List.map_cons, List.map_nil, List.replicate_succ, List.replicate_zero, List.flatten_cons, List.flatten_nil, Nat.zero_add, Nat.reduceAdd, chunk]; rfl) | rfl) ?_
        | refine q_store_agg rfl (by repeat (first | exact get_same | refine get_other (by omega) ?_)) rfl rfl (Nat.le_of_ble_eq_true rfl) (by first | (simp only [Lk.pv, Sd.pv, Lk.ng, Lk.al, Sd.ng, Sd.al, List.take_zero, List.take_succ_cons, List.take_nil, List.drop_zero, List.drop_succ_cons, List.drop_nil, List.nil_append, List.cons_append, List.append_nil, List.map_cons, List.map_nil, List.replicate_succ, List.replicate_zero, List.flatten_cons, List.flatten_nil, Nat.zero_add, Nat.reduceAdd, chunk]; rfl) | rfl) ?_
        | refine q_store_p rfl (by repeat (first | exact get_same | refine get_other (by omega) ?_)) rfl (Nat.le_of_ble_eq_true rfl) (by first | (simp only [Lk.pv, Sd.pv, Lk.ng, Lk.al, Sd.ng, Sd.al, List.take_zero, List.take_succ_cons, List.take_nil, List.drop_zero, List.drop_succ_cons, List.drop_nil, List.nil_append, List.cons_append, List.append_nil, List.map_cons, List.map_nil, List.replicate_succ, List.replicate_zero, List.flatten_cons, List.flatten_nil, Nat.zero_add, Nat.reduceAdd, chunk]; rfl) | rfl) ?_
        | refine q_store_sl rfl (by repeat (first | exact get_same | refine get_other (by omega) ?_)) rfl (Nat.le_of_ble_eq_true rfl) (by first | (simp only [Lk.pv, Sd.pv, Lk.ng, Lk.al, Sd.ng, Sd.al, List.take_zero, List.take_succ_cons, List.take_nil, List.drop_zero, List.drop_succ_cons, List.drop_nil, List.nil_append, List.cons_append, List.append_nil, List.map_cons, List.map_nil, List.replicate_succ, List.replicate_zero, List.flatten_cons, List.flatten_nil, Nat.zero_add, Nat.reduceAdd, chunk]; rfl) | rfl) ?_
        | refine q_store_fn rfl (by repeat (first | exact get_same | refine get_other (by omega) ?_)) rfl (Nat.le_of_ble_eq_true rfl) (by first | (simp only [Lk.pv, Sd.pv, Lk.ng, Lk.al, Sd.ng, Sd.al, List.take_zero, List.take_succ_cons, List.take_nil, List.drop_zero, List.drop_succ_cons, List.drop_nil, List.nil_append, List.cons_append, List.append_nil, List.map_cons, List.map_nil, List.replicate_succ, List.replicate_zero, List.flatten_cons, List.flatten_nil, Nat.zero_add, Nat.reduceAdd, chunk]; rfl) | rfl) ?_
        | refine q_lenS_map rfl ?_
        | refine q_lenS rfl ?_
        | refine q_nil_drawn trivial ?_
        | (refine q_drawn fun n' hn' => ?_; simp only [List.length_cons, List.length_nil, Nat.zero_add, Nat.reduceAdd] at hn')
        | refine q_iadrS_nat rfl rfl (get_map (by omega)) rfl ?_
        | refine q_iadrA rfl rfl (by omega) (by omega) rfl ?_
        | refine q_ext rfl rfl ?_
        | refine q_min2 rfl rfl ?_
        | refine q_max2 rfl rfl ?_
        | (apply q_build; (focus (repeat' (first | exact fill_nil | (apply fill_p rfl (Nat.le_of_ble_eq_true rfl); (focus (first | (simp only [Lk.pv, Sd.pv, Lk.ng, Lk.al, Sd.ng, Sd.al, List.take_zero, List.take_succ_cons, List.take_nil, List.drop_zero, List.drop_succ_cons, List.drop_nil, List.nil_append, List.cons_append, List.append_nil, List.map_cons, List.map_nil, List.replicate_succ, List.replicate_zero, List.flatten_cons, List.flatten_nil, Nat.zero_add, Nat.reduceAdd, chunk]; rfl) | rfl))) | (apply fill_agg; (focus rfl); (focus rfl); (focus exact Nat.le_of_ble_eq_true rfl); (focus (first | (simp only [Lk.pv, Sd.pv, Lk.ng, Lk.al, Sd.ng, Sd.al, List.take_zero, List.take_succ_cons, List.take_nil, List.drop_zero, List.drop_succ_cons, List.drop_nil, List.nil_append, List.cons_append, List.append_nil, List.map_cons, List.map_nil, List.replicate_succ, List.replicate_zero, List.flatten_cons, List.flatten_nil, Nat.zero_add, Nat.reduceAdd, chunk]; rfl) | rfl))) | (apply fill_sl rfl (Nat.le_of_ble_eq_true rfl); (focus (first | (simp only [Lk.pv, Sd.pv, Lk.ng, Lk.al, Sd.ng, Sd.al, List.take_zero, List.take_succ_cons, List.take_nil, List.drop_zero, List.drop_succ_cons, List.drop_nil, List.nil_append, List.cons_append, List.append_nil, List.map_cons, List.map_nil, List.replicate_succ, List.replicate_zero, List.flatten_cons, List.flatten_nil, Nat.zero_add, Nat.reduceAdd, chunk]; rfl) | rfl))) | (apply fill_fn rfl (Nat.le_of_ble_eq_true rfl); (focus (first | (simp only [Lk.pv, Sd.pv, Lk.ng, Lk.al, Sd.ng, Sd.al, List.take_zero, List.take_succ_cons, List.take_nil, List.drop_zero, List.drop_succ_cons, List.drop_nil, List.nil_append, List.cons_append, List.append_nil, List.map_cons, List.map_nil, List.replicate_succ, List.replicate_zero, List.flatten_cons, List.flatten_nil, Nat.zero_add, Nat.reduceAdd, chunk]; rfl) | rfl))) | (apply fill_ptr rfl (Nat.le_of_ble_eq_true rfl); (focus (first | (simp only [Lk.pv, Sd.pv, Lk.ng, Lk.al, Sd.ng, Sd.al, List.take_zero, List.take_succ_cons, List.take_nil, List.drop_zero, List.drop_succ_cons, List.drop_nil, List.nil_append, List.cons_append, List.append_nil, List.map_cons, List.map_nil, List.replicate_succ, List.replicate_zero, List.flatten_cons, List.flatten_nil, Nat.zero_add, Nat.reduceAdd, chunk]; rfl) | rfl)))))))
        | refine q_mov_out rfl ?_
        | refine q_mov_tup rfl ?_
        | (apply q_bslice; (focus (repeat' (first | exact fill_nil | (apply fill_p rfl (Nat.le_of_ble_eq_true rfl); (focus (first | (simp only [Lk.pv, Sd.pv, Lk.ng, Lk.al, Sd.ng, Sd.al, List.take_zero, List.take_succ_cons, List.take_nil, List.drop_zero, List.drop_succ_cons, List.drop_nil, List.nil_append, List.cons_append, List.append_nil, List.map_cons, List.map_nil, List.replicate_succ, List.replicate_zero, List.flatten_cons, List.flatten_nil, Nat.zero_add, Nat.reduceAdd, chunk]; rfl) | rfl))) | (apply fill_agg; (focus rfl); (focus rfl); (focus exact Nat.le_of_ble_eq_true rfl); (focus (first | (simp only [Lk.pv, Sd.pv, Lk.ng, Lk.al, Sd.ng, Sd.al, List.take_zero, List.take_succ_cons, List.take_nil, List.drop_zero, List.drop_succ_cons, List.drop_nil, List.nil_append, List.cons_append, List.append_nil, List.map_cons, List.map_nil, List.replicate_succ, List.replicate_zero, List.flatten_cons, List.flatten_nil, Nat.zero_add, Nat.reduceAdd, chunk]; rfl) | rfl))) | (apply fill_sl rfl (Nat.le_of_ble_eq_true rfl); (focus (first | (simp only [Lk.pv, Sd.pv, Lk.ng, Lk.al, Sd.ng, Sd.al, List.take_zero, List.take_succ_cons, List.take_nil, List.drop_zero, List.drop_succ_cons, List.drop_nil, List.nil_append, List.cons_append, List.append_nil, List.map_cons, List.map_nil, List.replicate_succ, List.replicate_zero, List.flatten_cons, List.flatten_nil, Nat.zero_add, Nat.reduceAdd, chunk]; rfl) | rfl))) | (apply fill_fn rfl (Nat.le_of_ble_eq_true rfl); (focus (first | (simp only [Lk.pv, Sd.pv, Lk.ng, Lk.al, Sd.ng, Sd.al, List.take_zero, List.take_succ_cons, List.take_nil, List.drop_zero, List.drop_succ_cons, List.drop_nil, List.nil_append, List.cons_append, List.append_nil, List.map_cons, List.map_nil, List.replicate_succ, List.replicate_zero, List.flatten_cons, List.flatten_nil, Nat.zero_add, Nat.reduceAdd, chunk]; rfl) | rfl))) | (apply fill_ptr rfl (Nat.le_of_ble_eq_true rfl); (focus (first | (simp only [Lk.pv, Sd.pv, Lk.ng, Lk.al, Sd.ng, Sd.al, List.take_zero, List.take_succ_cons, List.take_nil, List.drop_zero, List.drop_succ_cons, List.drop_nil, List.nil_append, List.cons_append, List.append_nil, List.map_cons, List.map_nil, List.replicate_succ, List.replicate_zero, List.flatten_cons, List.flatten_nil, Nat.zero_add, Nat.reduceAdd, chunk]; rfl) | rfl)))))); (focus rfl); (focus (first | (simp only [Lk.pv, Sd.pv, Lk.ng, Lk.al, Sd.ng, Sd.al, List.take_zero, List.take_succ_cons, List.take_nil, List.drop_zero, List.drop_succ_cons, List.drop_nil, List.nil_append, List.cons_append, List.append_nil, List.map_cons, List.map_nil, List.replicate_succ, List.replicate_zero, List.flatten_cons, List.flatten_nil, Nat.zero_add, Nat.reduceAdd, chunk]; rfl) | rfl)))
        | (apply q_mkfn; (focus (repeat' (first | exact mapE_nil | (apply mapE_p; (focus rfl)) | (apply mapE_ptr; (focus rfl)) | (apply mapE_ref; (focus rfl)) | (apply mapE_agg; (focus rfl)) | (apply mapE_fn; (focus rfl)) | (apply mapE_sl; (focus rfl))))))
        )
      refine q_append_out (tk := t2) rfl rfl (rows_len (pv := Lk.pvA) (fun _ => rfl) _) rfl (by omega) (by omega) (fun k hk => by
        have h7 := ht2 k hk
        rw [hl2]
        refine get_other ?_ ?_
        · rcases hk9 with ⟨_, h5⟩ | h5
          · omega
          · exact fun e => hdis _ _ h5 hk e.symm
        · (repeat (refine get_other (by omega) ?_)); exact get_vecB (fun h8 => hdis _ _ h8 hk rfl) (get_vecB_self k hk)) (fun k10 hk10 => ?_)
      have hb10 : k10 < n' ∧ S.n ≤ k10 ∧ k10 ≠ k := by
        rcases hk10 with ⟨_, h5⟩ | h5
        · omega
        · have := ht2 _ h5; omega
      have hne : k9 ≠ k10 := by
        rcases hk9 with ⟨_, h5⟩ | h5 <;> rcases hk10 with ⟨_, h6⟩ | h6
        · omega
        · have := ht2 _ h6; omega
        · have := ht1 _ h5; omega
        · exact hdis _ _ h5 h6
      repeat' (first
        | refine q_seq ?_
        | (refine q_reg fun n' hn' => ?_; simp only [List.length_cons, List.length_nil, Nat.zero_add, Nat.reduceAdd] at hn')
        | refine q_mov_p rfl ?_
        | refine q_on rfl ?_
        | refine q_off rfl rfl ?_
        | refine q_off_tup rfl ?_
        | refine q_mov_agg rfl ?_
        | refine q_lss rfl rfl (fun h => ?_) (fun h => ?_)
        | refine q_leq rfl rfl (fun h => ?_) (fun h => ?_)
        | refine q_gtr rfl rfl (fun h => ?_) (fun h => ?_)
        | refine q_geq rfl rfl (fun h => ?_) (fun h => ?_)
        | refine q_eql rfl rfl (fun h => ?_) (fun h => ?_)
        | refine q_neq rfl rfl (fun h => ?_) (fun h => ?_)
        | refine q_pick_t rfl ?_
        | refine q_pick_f rfl ?_
        | refine q_nil_drawn trivial ?_
        | refine q_nil_drawn (sep1 rfl rfl (by omega) trivial) ?_
        | refine q_nil_drawn (sep1 rfl rfl (by omega) (sep1 rfl rfl (by omega) trivial)) ?_
        | refine q_nil ?_
        | refine q_normal ?_
        | refine q_cond_t rfl ?_
        | refine q_cond_f rfl ?_
        | refine q_block ?_
        | refine q_exit ?_
        | refine q_ret ?_
        | refine q_skip ?_
        | refine q_seq_exit ?_
        | refine q_loop_exit ?_
        | refine q_loop_ret ?_
        | refine q_seq_ret ?_
        | refine q_block_normal ?_
        | refine q_block_ret ?_
        | refine q_block_hit ?_
        | refine q_block_miss rfl ?_
        | refine q_add rfl rfl (wrap64 (by omega)) ?_
        | refine q_sub rfl rfl (wrap64 (by omega)) ?_
        | refine q_mul rfl rfl (wrap64 (by omega)) ?_
        | refine q_mul31 rfl rfl (by omega) (by omega) (fun hm1 hm2 => ?_)
        | refine q_neg rfl (wrap64 (by omega)) ?_
        | refine q_not rfl rfl ?_
        | refine q_eqB rfl rfl rfl ?_
        | (refine q_alloc fun k hk => ?_)
        | (refine q_box_agg rfl fun k hk => ?_)
        | (refine q_box_p rfl fun k hk => ?_)
        | (refine q_box_sl rfl fun k hk => ?_)
        | (refine q_box_fn rfl fun k hk => ?_)
        | refine q_fadr rfl rfl ?_
        | refine q_fadr_ref rfl rfl ?_
        | refine q_mov_ptr rfl ?_
        | refine q_mov_ref rfl ?_
        | refine q_mov_sl rfl ?_
        | refine q_mov_fn rfl ?_
        | refine q_load1_ref rfl rfl ?_
        | refine q_loadA_ref rfl (Nat.le_of_ble_eq_true rfl) (by first | (simp only [Lk.pv, Sd.pv, Lk.ng, Lk.al, Sd.ng, Sd.al, List.take_zero, List.take_succ_cons, List.take_nil, List.drop_zero, List.drop_succ_cons, List.drop_nil, List.nil_append, List.cons_append, List.append_nil, List.map_cons, List.map_nil, List.replicate_succ, List.replicate_zero, List.flatten_cons, List.flatten_nil, Nat.zero_add, Nat.reduceAdd, chunk]; rfl) | rfl) ?_
        | refine q_load1 rfl (by repeat (first | exact get_same | refine get_other (by omega) ?_)) rfl ?_
        | refine q_loadA rfl (by repeat (first | exact get_same | refine get_other (by omega) ?_)) (Nat.le_of_ble_eq_true rfl) (by first | (simp only [Lk.pv, Sd.pv, Lk.ng, Lk.al, Sd.ng, Sd.al, List.take_zero, List.take_succ_cons, List.take_nil, List.drop_zero, List.drop_succ_cons, List.drop_nil, List.nil_append, List.cons_append, List.append_nil, List.map_cons, List.map_nil, List.replicate_succ, List.replicate_zero, List.flatten_cons, List.flatten_nil, Nat.zero_add, Nat.reduceAdd, chunk]; rfl) | rfl) ?_
        | refine q_store_agg rfl (by repeat (first | exact get_same | refine get_other (by omega) ?_)) rfl rfl (Nat.le_of_ble_eq_true rfl) (by first | (simp only [Lk.pv, Sd.pv, Lk.ng, Lk.al, Sd.ng, Sd.al, List.take_zero, List.take_succ_cons, List.take_nil, List.drop_zero, List.drop_succ_cons, List.drop_nil, List.nil_append, List.cons_append, List.append_nil, List.map_cons, List.map_nil, List.replicate_succ, List.replicate_zero, List.flatten_cons, List.flatten_nil, Nat.zero_add, Nat.reduceAdd, chunk]; rfl) | rfl) ?_
        | refine q_store_p rfl (by repeat (first | exact get_same | refine get_other (by omega) ?_)) rfl (Nat.le_of_ble_eq_true rfl) (by first | (simp only [Lk.pv, Sd.pv, Lk.ng, Lk.al, Sd.ng, Sd.al, List.take_zero, List.take_succ_cons, List.take_nil, List.drop_zero, List.drop_succ_cons, List.drop_nil, List.nil_append, List.cons_append, List.append_nil, List.map_cons, List.map_nil, List.replicate_succ, List.replicate_zero, List.flatten_cons, List.flatten_nil, Nat.zero_add, Nat.reduceAdd, chunk]; rfl) | rfl) ?_
        | refine q_store_sl rfl (by repeat (first | exact get_same | refine get_other (by omega) ?_)) rfl (Nat.le_of_ble_eq_true rfl) (by first | (simp only [Lk.pv, Sd.pv, Lk.ng, Lk.al, Sd.ng, Sd.al, List.take_zero, List.take_succ_cons, List.take_nil, List.drop_zero, List.drop_succ_cons, List.drop_nil, List.nil_append, List.cons_append, List.append_nil, List.map_cons, List.map_nil, List.replicate_succ, List.replicate_zero, List.flatten_cons, List.flatten_nil, Nat.zero_add, Nat.reduceAdd, chunk]; rfl) | rfl) ?_
        | refine q_store_fn rfl (by repeat (first | exact get_same | refine get_other (by omega) ?_)) rfl (Nat.le_of_ble_eq_true rfl) (by first | (simp only [Lk.pv, Sd.pv, Lk.ng, Lk.al, Sd.ng, Sd.al, List.take_zero, List.take_succ_cons, List.take_nil, List.drop_zero, List.drop_succ_cons, List.drop_nil, List.nil_append, List.cons_append, List.append_nil, List.map_cons, List.map_nil, List.replicate_succ, List.replicate_zero, List.flatten_cons, List.flatten_nil, Nat.zero_add, Nat.reduceAdd, chunk]; rfl) | rfl) ?_
        | refine q_lenS_map rfl ?_
        | refine q_lenS rfl ?_
        | refine q_nil_drawn trivial ?_
        | (refine q_drawn fun n' hn' => ?_; simp only [List.length_cons, List.length_nil, Nat.zero_add, Nat.reduceAdd] at hn')
        | refine q_iadrS_nat rfl rfl (get_map (by omega)) rfl ?_
        | refine q_iadrA rfl rfl (by omega) (by omega) rfl ?_
        | refine q_ext rfl rfl ?_
        | refine q_min2 rfl rfl ?_
        | refine q_max2 rfl rfl ?_
        | (apply q_build; (focus (repeat' (first | exact fill_nil | (apply fill_p rfl (Nat.le_of_ble_eq_true rfl); (focus (first | (simp only [Lk.pv, Sd.pv, Lk.ng, Lk.al, Sd.ng, Sd.al, List.take_zero, List.take_succ_cons, List.take_nil, List.drop_zero, List.drop_succ_cons, List.drop_nil, List.nil_append, List.cons_append, List.append_nil, List.map_cons, List.map_nil, List.replicate_succ, List.replicate_zero, List.flatten_cons, List.flatten_nil, Nat.zero_add, Nat.reduceAdd, chunk]; rfl) | rfl))) | (apply fill_agg; (focus rfl); (focus rfl); (focus exact Nat.le_of_ble_eq_true rfl); (focus (first | (simp only [Lk.pv, Sd.pv, Lk.ng, Lk.al, Sd.ng, Sd.al, List.take_zero, List.take_succ_cons, List.take_nil, List.drop_zero, List.drop_succ_cons, List.drop_nil, List.nil_append, List.cons_append, List.append_nil, List.map_cons, List.map_nil, List.replicate_succ, List.replicate_zero, List.flatten_cons, List.flatten_nil, Nat.zero_add, Nat.reduceAdd, chunk]; rfl) | rfl))) | (apply fill_sl rfl (Nat.le_of_ble_eq_true rfl); (focus (first | (simp only [Lk.pv, Sd.pv, Lk.ng, Lk.al, Sd.ng, Sd.al, List.take_zero, List.take_succ_cons, List.take_nil, List.drop_zero, List.drop_succ_cons, List.drop_nil, List.nil_append, List.cons_append, List.append_nil, List.map_cons, List.map_nil, List.replicate_succ, List.replicate_zero, List.flatten_cons, List.flatten_nil, Nat.zero_add, Nat.reduceAdd, chunk]; rfl) | rfl))) | (apply fill_fn rfl (Nat.le_of_ble_eq_true rfl); (focus (first | (simp only [Lk.pv, Sd.pv, Lk.ng, Lk.al, Sd.ng, Sd.al, List.take_zero, List.take_succ_cons, List.take_nil, List.drop_zero, List.drop_succ_cons, List.drop_nil, List.nil_append, List.cons_append, List.append_nil, List.map_cons, List.map_nil, List.replicate_succ, List.replicate_zero, List.flatten_cons, List.flatten_nil, Nat.zero_add, Nat.reduceAdd, chunk]; rfl) | rfl))) | (apply fill_ptr rfl (Nat.le_of_ble_eq_true rfl); (focus (first | (simp only [Lk.pv, Sd.pv, Lk.ng, Lk.al, Sd.ng, Sd.al, List.take_zero, List.take_succ_cons, List.take_nil, List.drop_zero, List.drop_succ_cons, List.drop_nil, List.nil_append, List.cons_append, List.append_nil, List.map_cons, List.map_nil, List.replicate_succ, List.replicate_zero, List.flatten_cons, List.flatten_nil, Nat.zero_add, Nat.reduceAdd, chunk]; rfl) | rfl)))))))
        | refine q_mov_out rfl ?_
        | refine q_mov_tup rfl ?_
        | (apply q_bslice; (focus (repeat' (first | exact fill_nil | (apply fill_p rfl (Nat.le_of_ble_eq_true rfl); (focus (first | (simp only [Lk.pv, Sd.pv, Lk.ng, Lk.al, Sd.ng, Sd.al, List.take_zero, List.take_succ_cons, List.take_nil, List.drop_zero, List.drop_succ_cons, List.drop_nil, List.nil_append, List.cons_append, List.append_nil, List.map_cons, List.map_nil, List.replicate_succ, List.replicate_zero, List.flatten_cons, List.flatten_nil, Nat.zero_add, Nat.reduceAdd, chunk]; rfl) | rfl))) | (apply fill_agg; (focus rfl); (focus rfl); (focus exact Nat.le_of_ble_eq_true rfl); (focus (first | (simp only [Lk.pv, Sd.pv, Lk.ng, Lk.al, Sd.ng, Sd.al, List.take_zero, List.take_succ_cons, List.take_nil, List.drop_zero, List.drop_succ_cons, List.drop_nil, List.nil_append, List.cons_append, List.append_nil, List.map_cons, List.map_nil, List.replicate_succ, List.replicate_zero, List.flatten_cons, List.flatten_nil, Nat.zero_add, Nat.reduceAdd, chunk]; rfl) | rfl))) | (apply fill_sl rfl (Nat.le_of_ble_eq_true rfl); (focus (first | (simp only [Lk.pv, Sd.pv, Lk.ng, Lk.al, Sd.ng, Sd.al, List.take_zero, List.take_succ_cons, List.take_nil, List.drop_zero, List.drop_succ_cons, List.drop_nil, List.nil_append, List.cons_append, List.append_nil, List.map_cons, List.map_nil, List.replicate_succ, List.replicate_zero, List.flatten_cons, List.flatten_nil, Nat.zero_add, Nat.reduceAdd, chunk]; rfl) | rfl))) | (apply fill_fn rfl (Nat.le_of_ble_eq_true rfl); (focus (first | (simp only [Lk.pv, Sd.pv, Lk.ng, Lk.al, Sd.ng, Sd.al, List.take_zero, List.take_succ_cons, List.take_nil, List.drop_zero, List.drop_succ_cons, List.drop_nil, List.nil_append, List.cons_append, List.append_nil, List.map_cons, List.map_nil, List.replicate_succ, List.replicate_zero, List.flatten_cons, List.flatten_nil, Nat.zero_add, Nat.reduceAdd, chunk]; rfl) | rfl))) | (apply fill_ptr rfl (Nat.le_of_ble_eq_true rfl); (focus (first | (simp only [Lk.pv, Sd.pv, Lk.ng, Lk.al, Sd.ng, Sd.al, List.take_zero, List.take_succ_cons, List.take_nil, List.drop_zero, List.drop_succ_cons, List.drop_nil, List.nil_append, List.cons_append, List.append_nil, List.map_cons, List.map_nil, List.replicate_succ, List.replicate_zero, List.flatten_cons, List.flatten_nil, Nat.zero_add, Nat.reduceAdd, chunk]; rfl) | rfl)))))); (focus rfl); (focus (first | (simp only [Lk.pv, Sd.pv, Lk.ng, Lk.al, Sd.ng, Sd.al, List.take_zero, List.take_succ_cons, List.take_nil, List.drop_zero, List.drop_succ_cons, List.drop_nil, List.nil_append, List.cons_append, List.append_nil, List.map_cons, List.map_nil, List.replicate_succ, List.replicate_zero, List.flatten_cons, List.flatten_nil, Nat.zero_add, Nat.reduceAdd, chunk]; rfl) | rfl)))
        | (apply q_mkfn; (focus (repeat' (first | exact mapE_nil | (apply mapE_p; (focus rfl)) | (apply mapE_ptr; (focus rfl)) | (apply mapE_ref; (focus rfl)) | (apply mapE_agg; (focus rfl)) | (apply mapE_fn; (focus rfl)) | (apply mapE_sl; (focus rfl))))))
        )
      have hout1 : (l.take i).map Lk.pvN ++ [l[i].pvN] = (l.take (i + 1)).map Lk.pvN := by rw [List.take_succ_eq_append_getElem (by omega), List.map_append]; rfl
      have hout2 : (l.take i).map Lk.pvA ++ [l[i].pvA] = (l.take (i + 1)).map Lk.pvA := by rw [List.take_succ_eq_append_getElem (by omega), List.map_append]; rfl
      refine q_loop_normal ⟨i + 1, n', some k9, some k10⟩ ⟨by simp only; omega, by simp only; omega, ?_, ?_, ?_⟩ (by simp only; omega) (wk_mk hwf (by simp only; omega) (by simp) ?_ (blks_vecB (fun k hk => by cases hk; exact ⟨get_other hne (by rw [hl1]; exact get_same), by simp only; omega⟩) (blks_vecB (fun k hk => by cases hk; exact ⟨by rw [hl2]; exact get_same, by simp only; omega⟩) trivial)) ?_)
      · intro k hk
        cases hk
        rcases hk9 with ⟨_, h5⟩ | h5
        · simp only; omega
        · have := ht1 _ h5; simp only; omega
      · intro k hk
        cases hk
        rcases hk10 with ⟨_, h5⟩ | h5
        · simp only; omega
        · have := ht2 _ h5; simp only; omega
      · intro a b ha hb
        cases ha
        cases hb
        exact hne
      · simp only [keysP]
        refine ⟨by omega, by omega, by omega, by omega, keys_vecB (fun k hk => by have := ht1 k hk; omega) (keys_vecB (fun k hk => by have := ht2 k hk; omega) trivial)⟩
      · simp only [fitsP]
        exact ⟨.same trivial, .same trivial, .same trivial, .same trivial, wkV_out_eq hout1 (by omega), wkV_out_eq hout2 (by omega), .same trivial, .same trivial, wkV_int (by omega), trivial⟩
    · have hbs : ∀ (j : Nat) (h : j < (sidesL l).length), (-2199023255552 ≤ (sidesL l)[j].l0 ∧ (sidesL l)[j].l0 ≤ 2199023255552) ∧ (-2199023255552 ≤ (sidesL l)[j].l1 ∧ (sidesL l)[j].l1 ≤ 2199023255552) ∧ (-2199023255552 ≤ (sidesL l)[j].r0 ∧ (sidesL l)[j].r0 ≤ 2199023255552) ∧ (-2199023255552 ≤ (sidesL l)[j].r1 ∧ (sidesL l)[j].r1 ≤ 2199023255552) := fun j hj => sidesL_bd hr _ (List.getElem_mem hj)
      have hwb := windL_bd l ⟨x, y⟩
      repeat' (first
        | refine q_call (fun S => ASpec.fg (spec33 S _ l)) ?_
        | refine q_call (fun S => ASpec.out (t33N S _ l i (by omega))) ?_
        | refine q_call (fun S => ASpec.out (t33A S _ l hr i (by omega))) ?_
        | refine q_neq_f rfl rfl (by omega) ?_
        | refine q_seq ?_
        | (refine q_reg fun n' hn' => ?_; simp only [List.length_cons, List.length_nil, Nat.zero_add, Nat.reduceAdd] at hn')
        | refine q_mov_p rfl ?_
        | refine q_on rfl ?_
        | refine q_off rfl rfl ?_
        | refine q_off_tup rfl ?_
        | refine q_mov_agg rfl ?_
        | refine q_lss rfl rfl (fun h => ?_) (fun h => ?_)
        | refine q_leq rfl rfl (fun h => ?_) (fun h => ?_)
        | refine q_gtr rfl rfl (fun h => ?_) (fun h => ?_)
        | refine q_geq rfl rfl (fun h => ?_) (fun h => ?_)
        | refine q_eql rfl rfl (fun h => ?_) (fun h => ?_)
        | refine q_neq rfl rfl (fun h => ?_) (fun h => ?_)
        | refine q_pick_t rfl ?_
        | refine q_pick_f rfl ?_
        | refine q_nil_drawn trivial ?_
        | refine q_nil_drawn (sep1 rfl rfl (by omega) trivial) ?_
        | refine q_nil_drawn (sep1 rfl rfl (by omega) (sep1 rfl rfl (by omega) trivial)) ?_
        | refine q_nil ?_
        | refine q_normal ?_
        | refine q_cond_t rfl ?_
        | refine q_cond_f rfl ?_
        | refine q_block ?_
        | refine q_exit ?_
        | refine q_ret ?_
        | refine q_skip ?_
        | refine q_seq_exit ?_
        | refine q_loop_exit ?_
        | refine q_loop_ret ?_
        | refine q_seq_ret ?_
        | refine q_block_normal ?_
        | refine q_block_ret ?_
        | refine q_block_hit ?_
        | refine q_block_miss rfl ?_
        | refine q_add rfl rfl (wrap64 (by omega)) ?_
        | refine q_sub rfl rfl (wrap64 (by omega)) ?_
        | refine q_mul rfl rfl (wrap64 (by omega)) ?_
        | refine q_mul31 rfl rfl (by omega) (by omega) (fun hm1 hm2 => ?_)
        | refine q_neg rfl (wrap64 (by omega)) ?_
        | refine q_not rfl rfl ?_
        | refine q_eqB rfl rfl rfl ?_
        | (refine q_alloc fun k hk => ?_)
        | (refine q_box_agg rfl fun k hk => ?_)
        | (refine q_box_p rfl fun k hk => ?_)
        | (refine q_box_sl rfl fun k hk => ?_)
        | (refine q_box_fn rfl fun k hk => ?_)
        | refine q_fadr rfl rfl ?_
        | refine q_fadr_ref rfl rfl ?_
        | refine q_mov_ptr rfl ?_
        | refine q_mov_ref rfl ?_
        | refine q_mov_sl rfl ?_
        | refine q_mov_fn rfl ?_
        | refine q_load1_ref rfl rfl ?_
        | refine q_loadA_ref rfl (Nat.le_of_ble_eq_true rfl) (by first | (simp only [Lk.pv, Sd.pv, Lk.ng, Lk.al, Sd.ng, Sd.al, List.take_zero, List.take_succ_cons, List.take_nil, List.drop_zero, List.drop_succ_cons, List.drop_nil, List.nil_append, List.cons_append, List.append_nil, List.map_cons, List.map_nil, List.replicate_succ, List.replicate_zero, List.flatten_cons, List.flatten_nil, Nat.zero_add, Nat.reduceAdd, chunk]; rfl) | rfl) ?_
        | refine q_load1 rfl (by repeat (first | exact get_same | refine get_other (by omega) ?_)) rfl ?_
        | refine q_loadA rfl (by repeat (first | exact get_same | refine get_other (by omega) ?_)) (Nat.le_of_ble_eq_true rfl) (by first | (simp only [Lk.pv, Sd.pv, Lk.ng, Lk.al, Sd.ng, Sd.al, List.take_zero, List.take_succ_cons, List.take_nil, List.drop_zero, List.drop_succ_cons, List.drop_nil, List.nil_append, List.cons_append, List.append_nil, List.map_cons, List.map_nil, List.replicate_succ, List.replicate_zero, List.flatten_cons, List.flatten_nil, Nat.zero_add, Nat.reduceAdd, chunk]; rfl) | rfl) ?_
        | refine q_store_agg rfl (by repeat (first | exact get_same | refine get_other (by omega) ?_)) rfl rfl (Nat.le_of_ble_eq_true rfl) (by first | (simp only [Lk.pv, Sd.pv, Lk.ng, Lk.al, Sd.ng, Sd.al, List.take_zero, List.take_succ_cons, List.take_nil, List.drop_zero, List.drop_succ_cons, List.drop_nil, List.nil_append, List.cons_append, List.append_nil, List.map_cons, List.map_nil, List.replicate_succ, List.replicate_zero, List.flatten_cons, List.flatten_nil, Nat.zero_add, Nat.reduceAdd, chunk]; rfl) | rfl) ?_
        | refine q_store_p rfl (by repeat (first | exact get_same | refine get_other (by omega) ?_)) rfl (Nat.le_of_ble_eq_true rfl) (by first | (simp only [Lk.pv, Sd.pv, Lk.ng, Lk.al, Sd.ng, Sd.al, List.take_zero, List.take_succ_cons, List.take_nil, List.drop_zero, List.drop_succ_cons, List.drop_nil, List.nil_append, List.cons_append, List.append_nil, List.map_cons, List.map_nil, List.replicate_succ, List.replicate_zero, List.flatten_cons, List.flatten_nil, Nat.zero_add, Nat.reduceAdd, chunk]; rfl) | rfl) ?_
        | refine q_store_sl rfl (by repeat (first | exact get_same | refine get_other (by omega) ?_)) rfl (Nat.le_of_ble_eq_true rfl) (by first | (simp only [Lk.pv, Sd.pv, Lk.ng, Lk.al, Sd.ng, Sd.al, List.take_zero, List.take_succ_cons, List.take_nil, List.drop_zero, List.drop_succ_cons, List.drop_nil, List.nil_append, List.cons_append, List.append_nil, List.map_cons, List.map_nil, List.replicate_succ, List.replicate_zero, List.flatten_cons, List.flatten_nil, Nat.zero_add, Nat.reduceAdd, chunk]; rfl) | rfl) ?_
        | refine q_store_fn rfl (by repeat (first | exact get_same | refine get_other (by omega) ?_)) rfl (Nat.le_of_ble_eq_true rfl) (by first | (simp only [Lk.pv, Sd.pv, Lk.ng, Lk.al, Sd.ng, Sd.al, List.take_zero, List.take_succ_cons, List.take_nil, List.drop_zero, List.drop_succ_cons, List.drop_nil, List.nil_append, List.cons_append, List.append_nil, List.map_cons, List.map_nil, List.replicate_succ, List.replicate_zero, List.flatten_cons, List.flatten_nil, Nat.zero_add, Nat.reduceAdd, chunk]; rfl) | rfl) ?_
        | refine q_lenS_map rfl ?_
        | refine q_lenS rfl ?_
        | refine q_nil_drawn trivial ?_
        | (refine q_drawn fun n' hn' => ?_; simp only [List.length_cons, List.length_nil, Nat.zero_add, Nat.reduceAdd] at hn')
        | refine q_iadrS_nat rfl rfl (get_map (by omega)) rfl ?_
        | refine q_iadrA rfl rfl (by omega) (by omega) rfl ?_
        | refine q_ext rfl rfl ?_
        | refine q_min2 rfl rfl ?_
        | refine q_max2 rfl rfl ?_
        | (apply q_build; (focus (repeat' (first | exact fill_nil | (apply fill_p rfl (Nat.le_of_ble_eq_true rfl); (focus (first | (simp only [Lk.pv, Sd.pv, Lk.ng, Lk.al, Sd.ng, Sd.al, List.take_zero, List.take_succ_cons, List.take_nil, List.drop_zero, List.drop_succ_cons, List.drop_nil, List.nil_append, List.cons_append, List.append_nil, List.map_cons, List.map_nil, List.replicate_succ, List.replicate_zero, List.flatten_cons, List.flatten_nil, Nat.zero_add, Nat.reduceAdd, chunk]; rfl) | rfl))) | (apply fill_agg; (focus rfl); (focus rfl); (focus exact Nat.le_of_ble_eq_true rfl); (focus (first | (simp only [Lk.pv, Sd.pv, Lk.ng, Lk.al, Sd.ng, Sd.al, List.take_zero, List.take_succ_cons, List.take_nil, List.drop_zero, List.drop_succ_cons, List.drop_nil, List.nil_append, List.cons_append, List.append_nil, List.map_cons, List.map_nil, List.replicate_succ, List.replicate_zero, List.flatten_cons, List.flatten_nil, Nat.zero_add, Nat.reduceAdd, chunk]; rfl) | rfl))) | (apply fill_sl rfl (Nat.le_of_ble_eq_true rfl); (focus (first | (simp only [Lk.pv, Sd.pv, Lk.ng, Lk.al, Sd.ng, Sd.al, List.take_zero, List.take_succ_cons, List.take_nil, List.drop_zero, List.drop_succ_cons, List.drop_nil, List.nil_append, List.cons_append, List.append_nil, List.map_cons, List.map_nil, List.replicate_succ, List.replicate_zero, List.flatten_cons, List.flatten_nil, Nat.zero_add, Nat.reduceAdd, chunk]; rfl) | rfl))) | (apply fill_fn rfl (Nat.le_of_ble_eq_true rfl); (focus (first | (simp only [Lk.pv, Sd.pv, Lk.ng, Lk.al, Sd.ng, Sd.al, List.take_zero, List.take_succ_cons, List.take_nil, List.drop_zero, List.drop_succ_cons, List.drop_nil, List.nil_append, List.cons_append, List.append_nil, List.map_cons, List.map_nil, List.replicate_succ, List.replicate_zero, List.flatten_cons, List.flatten_nil, Nat.zero_add, Nat.reduceAdd, chunk]; rfl) | rfl))) | (apply fill_ptr rfl (Nat.le_of_ble_eq_true rfl); (focus (first | (simp only [Lk.pv, Sd.pv, Lk.ng, Lk.al, Sd.ng, Sd.al, List.take_zero, List.take_succ_cons, List.take_nil, List.drop_zero, List.drop_succ_cons, List.drop_nil, List.nil_append, List.cons_append, List.append_nil, List.map_cons, List.map_nil, List.replicate_succ, List.replicate_zero, List.flatten_cons, List.flatten_nil, Nat.zero_add, Nat.reduceAdd, chunk]; rfl) | rfl)))))))
        | refine q_mov_out rfl ?_
        | refine q_mov_tup rfl ?_
        | (apply q_bslice; (focus (repeat' (first | exact fill_nil | (apply fill_p rfl (Nat.le_of_ble_eq_true rfl); (focus (first | (simp only [Lk.pv, Sd.pv, Lk.ng, Lk.al, Sd.ng, Sd.al, List.take_zero, List.take_succ_cons, List.take_nil, List.drop_zero, List.drop_succ_cons, List.drop_nil, List.nil_append, List.cons_append, List.append_nil, List.map_cons, List.map_nil, List.replicate_succ, List.replicate_zero, List.flatten_cons, List.flatten_nil, Nat.zero_add, Nat.reduceAdd, chunk]; rfl) | rfl))) | (apply fill_agg; (focus rfl); (focus rfl); (focus exact Nat.le_of_ble_eq_true rfl); (focus (first | (simp only [Lk.pv, Sd.pv, Lk.ng, Lk.al, Sd.ng, Sd.al, List.take_zero, List.take_succ_cons, List.take_nil, List.drop_zero, List.drop_succ_cons, List.drop_nil, List.nil_append, List.cons_append, List.append_nil, List.map_cons, List.map_nil, List.replicate_succ, List.replicate_zero, List.flatten_cons, List.flatten_nil, Nat.zero_add, Nat.reduceAdd, chunk]; rfl) | rfl))) | (apply fill_sl rfl (Nat.le_of_ble_eq_true rfl); (focus (first | (simp only [Lk.pv, Sd.pv, Lk.ng, Lk.al, Sd.ng, Sd.al, List.take_zero, List.take_succ_cons, List.take_nil, List.drop_zero, List.drop_succ_cons, List.drop_nil, List.nil_append, List.cons_append, List.append_nil, List.map_cons, List.map_nil, List.replicate_succ, List.replicate_zero, List.flatten_cons, List.flatten_nil, Nat.zero_add, Nat.reduceAdd, chunk]; rfl) | rfl))) | (apply fill_fn rfl (Nat.le_of_ble_eq_true rfl); (focus (first | (simp only [Lk.pv, Sd.pv, Lk.ng, Lk.al, Sd.ng, Sd.al, List.take_zero, List.take_succ_cons, List.take_nil, List.drop_zero, List.drop_succ_cons, List.drop_nil, List.nil_append, List.cons_append, List.append_nil, List.map_cons, List.map_nil, List.replicate_succ, List.replicate_zero, List.flatten_cons, List.flatten_nil, Nat.zero_add, Nat.reduceAdd, chunk]; rfl) | rfl))) | (apply fill_ptr rfl (Nat.le_of_ble_eq_true rfl); (focus (first | (simp only [Lk.pv, Sd.pv, Lk.ng, Lk.al, Sd.ng, Sd.al, List.take_zero, List.take_succ_cons, List.take_nil, List.drop_zero, List.drop_succ_cons, List.drop_nil, List.nil_append, List.cons_append, List.append_nil, List.map_cons, List.map_nil, List.replicate_succ, List.replicate_zero, List.flatten_cons, List.flatten_nil, Nat.zero_add, Nat.reduceAdd, chunk]; rfl) | rfl)))))); (focus rfl); (focus (first | (simp only [Lk.pv, Sd.pv, Lk.ng, Lk.al, Sd.ng, Sd.al, List.take_zero, List.take_succ_cons, List.take_nil, List.drop_zero, List.drop_succ_cons, List.drop_nil, List.nil_append, List.cons_append, List.append_nil, List.map_cons, List.map_nil, List.replicate_succ, List.replicate_zero, List.flatten_cons, List.flatten_nil, Nat.zero_add, Nat.reduceAdd, chunk]; rfl) | rfl)))
        | (apply q_mkfn; (focus (repeat' (first | exact mapE_nil | (apply mapE_p; (focus rfl)) | (apply mapE_ptr; (focus rfl)) | (apply mapE_ref; (focus rfl)) | (apply mapE_agg; (focus rfl)) | (apply mapE_fn; (focus rfl)) | (apply mapE_sl; (focus rfl))))))
        )
      refine q_loop (γ := Nat) (fun j => [(1, vi x), (2, vi y), (7, slOf (l.map Lk.pv)), (8, .p (.sl t1.isNone ((l.take i).map Lk.pvN))), (12, slOf ((sidesL l).map Sd.pv)), (13, slOf ((sidesL l).map Sd.pvN)), (14, slOf ((sidesL l).map Sd.pvA)), (89, slOf ((sidesL l).map Sd.pv)), (90, vi ((sidesL l).length : Nat)), (91, vi j)]) (fun _ => ST S n' []) (fun j => j ≤ (sidesL l).length) (fun j => (sidesL l).length - j) 0 (by simp) ?_ ?_
      · refine wk_mk hwf (by omega) (by omega) (keys_vecB (fun k hk => by have := ht1 k hk; omega) (keys_vecB (fun k hk => by have := ht2 k hk; omega) trivial)) trivial ?_
        simp only [fitsP]
        exact ⟨.same trivial, .same trivial, .same trivial, wkV_outno, .same trivial, .same trivial, .same trivial, .same trivial, .same trivial, .same trivial, trivial⟩
      · rintro j hj
        repeat' (first
          | refine q_seq ?_
          | (refine q_reg fun n' hn' => ?_; simp only [List.length_cons, List.length_nil, Nat.zero_add, Nat.reduceAdd] at hn')
          | refine q_mov_p rfl ?_
          | refine q_on rfl ?_
          | refine q_off rfl rfl ?_
          | refine q_off_tup rfl ?_
          | refine q_mov_agg rfl ?_
          | refine q_lss rfl rfl (fun h => ?_) (fun h => ?_)
          | refine q_leq rfl rfl (fun h => ?_) (fun h => ?_)
          | refine q_gtr rfl rfl (fun h => ?_) (fun h => ?_)
          | refine q_geq rfl rfl (fun h => ?_) (fun h => ?_)
          | refine q_eql rfl rfl (fun h => ?_) (fun h => ?_)
          | refine q_neq rfl rfl (fun h => ?_) (fun h => ?_)
          | refine q_pick_t rfl ?_
          | refine q_pick_f rfl ?_
          | refine q_nil_drawn trivial ?_
          | refine q_nil_drawn (sep1 rfl rfl (by omega) trivial) ?_
          | refine q_nil_drawn (sep1 rfl rfl (by omega) (sep1 rfl rfl (by omega) trivial)) ?_
          | refine q_nil ?_
          | refine q_normal ?_
          | refine q_cond_t rfl ?_
          | refine q_cond_f rfl ?_
          | refine q_block ?_
          | refine q_exit ?_
          | refine q_ret ?_
          | refine q_skip ?_
          | refine q_seq_exit ?_
          | refine q_loop_exit ?_
          | refine q_loop_ret ?_
          | refine q_seq_ret ?_
          | refine q_block_normal ?_
          | refine q_block_ret ?_
          | refine q_block_hit ?_
          | refine q_block_miss rfl ?_
          | refine q_add rfl rfl (wrap64 (by omega)) ?_
          | refine q_sub rfl rfl (wrap64 (by omega)) ?_
          | refine q_mul rfl rfl (wrap64 (by omega)) ?_
          | refine q_mul31 rfl rfl (by omega) (by omega) (fun hm1 hm2 => ?_)
          | refine q_neg rfl (wrap64 (by omega)) ?_
          | refine q_not rfl rfl ?_
          | refine q_eqB rfl rfl rfl ?_
          | (refine q_alloc fun k hk => ?_)
          | (refine q_box_agg rfl fun k hk => ?_)
          | (refine q_box_p rfl fun k hk => ?_)
          | (refine q_box_sl rfl fun k hk => ?_)
          | (refine q_box_fn rfl fun k hk => ?_)
          | refine q_fadr rfl rfl ?_
          | refine q_fadr_ref rfl rfl ?_
          | refine q_mov_ptr rfl ?_
          | refine q_mov_ref rfl ?_
          | refine q_mov_sl rfl ?_
          | refine q_mov_fn rfl ?_
          | refine q_load1_ref rfl rfl ?_
          | refine q_loadA_ref rfl (Nat.le_of_ble_eq_true rfl) (by first | (simp only [Lk.pv, Sd.pv, Lk.ng, Lk.al, Sd.ng, Sd.al, List.take_zero, List.take_succ_cons, List.take_nil, List.drop_zero, List.drop_succ_cons, List.drop_nil, List.nil_append, List.cons_append, List.append_nil, List.map_cons, List.map_nil, List.replicate_succ, List.replicate_zero, List.flatten_cons, List.flatten_nil, Nat.zero_add, Nat.reduceAdd, chunk]; rfl) | rfl) ?_
          | refine q_load1 rfl (by repeat (first | exact get_same | refine get_other (by omega) ?_)) rfl ?_
          | refine q_loadA rfl (by repeat (first | exact get_same | refine get_other (by omega) ?_)) (Nat.le_of_ble_eq_true rfl) (by first | (simp only [Lk.pv, Sd.pv, Lk.ng, Lk.al, Sd.ng, Sd.al, List.take_zero, List.take_succ_cons, List.take_nil, List.drop_zero, List.drop_succ_cons, List.drop_nil, List.nil_append, List.cons_append, List.append_nil, List.map_cons, List.map_nil, List.replicate_succ, List.replicate_zero, List.flatten_cons, List.flatten_nil, Nat.zero_add, Nat.reduceAdd, chunk]; rfl) | rfl) ?_
          | refine q_store_agg rfl (by repeat (first | exact get_same | refine get_other (by omega) ?_)) rfl rfl (Nat.le_of_ble_eq_true rfl) (by first | (simp only [Lk.pv, Sd.pv, Lk.ng, Lk.al, Sd.ng, Sd.al, List.take_zero, List.take_succ_cons, List.take_nil, List.drop_zero, List.drop_succ_cons, List.drop_nil, List.nil_append, List.cons_append, List.append_nil, List.map_cons, List.map_nil, List.replicate_succ, List.replicate_zero, List.flatten_cons, List.flatten_nil, Nat.zero_add, Nat.reduceAdd, chunk]; rfl) | rfl) ?_
          | refine q_store_p rfl (by repeat (first | exact get_same | refine get_other (by omega) ?_)) rfl (Nat.le_of_ble_eq_true rfl) (by first | (simp only [Lk.pv, Sd.pv, Lk.ng, Lk.al, Sd.ng, Sd.al, List.take_zero, List.take_succ_cons, List.take_nil, List.drop_zero, List.drop_succ_cons, List.drop_nil, List.nil_append, List.cons_append, List.append_nil, List.map_cons, List.map_nil, List.replicate_succ, List.replicate_zero, List.flatten_cons, List.flatten_nil, Nat.zero_add, Nat.reduceAdd, chunk]; rfl) | rfl) ?_
          | refine q_store_sl rfl (by repeat (first | exact get_same | refine get_other (by omega) ?_)) rfl (Nat.le_of_ble_eq_true rfl) (by first | (simp only [Lk.pv, Sd.pv, Lk.ng, Lk.al, Sd.ng, Sd.al, List.take_zero, List.take_succ_cons, List.take_nil, List.drop_zero, List.drop_succ_cons, List.drop_nil, List.nil_append, List.cons_append, List.append_nil, List.map_cons, List.map_nil, List.replicate_succ, List.replicate_zero, List.flatten_cons, List.flatten_nil, Nat.zero_add, Nat.reduceAdd, chunk]; rfl) | rfl) ?_
          | refine q_store_fn rfl (by repeat (first | exact get_same | refine get_other (by omega) ?_)) rfl (Nat.le_of_ble_eq_true rfl) (by first | (simp only [Lk.pv, Sd.pv, Lk.ng, Lk.al, Sd.ng, Sd.al, List.take_zero, List.take_succ_cons, List.take_nil, List.drop_zero, List.drop_succ_cons, List.drop_nil, List.nil_append, List.cons_append, List.append_nil, List.map_cons, List.map_nil, List.replicate_succ, List.replicate_zero, List.flatten_cons, List.flatten_nil, Nat.zero_add, Nat.reduceAdd, chunk]; rfl) | rfl) ?_
          | refine q_lenS_map rfl ?_
          | refine q_lenS rfl ?_
          | refine q_nil_drawn trivial ?_
          | (refine q_drawn fun n' hn' => ?_; simp only [List.length_cons, List.length_nil, Nat.zero_add, Nat.reduceAdd] at hn')
          | refine q_iadrA rfl rfl (by omega) (by omega) rfl ?_
          | refine q_ext rfl rfl ?_
          | refine q_min2 rfl rfl ?_
          | refine q_max2 rfl rfl ?_
          | (apply q_build; (focus (repeat' (first | exact fill_nil | (apply fill_p rfl (Nat.le_of_ble_eq_true rfl); (focus (first | (simp only [Lk.pv, Sd.pv, Lk.ng, Lk.al, Sd.ng, Sd.al, List.take_zero, List.take_succ_cons, List.take_nil, List.drop_zero, List.drop_succ_cons, List.drop_nil, List.nil_append, List.cons_append, List.append_nil, List.map_cons, List.map_nil, List.replicate_succ, List.replicate_zero, List.flatten_cons, List.flatten_nil, Nat.zero_add, Nat.reduceAdd, chunk]; rfl) | rfl))) | (apply fill_agg; (focus rfl); (focus rfl); (focus exact Nat.le_of_ble_eq_true rfl); (focus (first | (simp only [Lk.pv, Sd.pv, Lk.ng, Lk.al, Sd.ng, Sd.al, List.take_zero, List.take_succ_cons, List.take_nil, List.drop_zero, List.drop_succ_cons, List.drop_nil, List.nil_append, List.cons_append, List.append_nil, List.map_cons, List.map_nil, List.replicate_succ, List.replicate_zero, List.flatten_cons, List.flatten_nil, Nat.zero_add, Nat.reduceAdd, chunk]; rfl) | rfl))) | (apply fill_sl rfl (Nat.le_of_ble_eq_true rfl); (focus (first | (simp only [Lk.pv, Sd.pv, Lk.ng, Lk.al, Sd.ng, Sd.al, List.take_zero, List.take_succ_cons, List.take_nil, List.drop_zero, List.drop_succ_cons, List.drop_nil, List.nil_append, List.cons_append, List.append_nil, List.map_cons, List.map_nil, List.replicate_succ, List.replicate_zero, List.flatten_cons, List.flatten_nil, Nat.zero_add, Nat.reduceAdd, chunk]; rfl) | rfl))) | (apply fill_fn rfl (Nat.le_of_ble_eq_true rfl); (focus (first | (simp only [Lk.pv, Sd.pv, Lk.ng, Lk.al, Sd.ng, Sd.al, List.take_zero, List.take_succ_cons, List.take_nil, List.drop_zero, List.drop_succ_cons, List.drop_nil, List.nil_append, List.cons_append, List.append_nil, List.map_cons, List.map_nil, List.replicate_succ, List.replicate_zero, List.flatten_cons, List.flatten_nil, Nat.zero_add, Nat.reduceAdd, chunk]; rfl) | rfl))) | (apply fill_ptr rfl (Nat.le_of_ble_eq_true rfl); (focus (first | (simp only [Lk.pv, Sd.pv, Lk.ng, Lk.al, Sd.ng, Sd.al, List.take_zero, List.take_succ_cons, List.take_nil, List.drop_zero, List.drop_succ_cons, List.drop_nil, List.nil_append, List.cons_append, List.append_nil, List.map_cons, List.map_nil, List.replicate_succ, List.replicate_zero, List.flatten_cons, List.flatten_nil, Nat.zero_add, Nat.reduceAdd, chunk]; rfl) | rfl)))))))
          | refine q_mov_out rfl ?_
          | refine q_mov_tup rfl ?_
          | (apply q_bslice; (focus (repeat' (first | exact fill_nil | (apply fill_p rfl (Nat.le_of_ble_eq_true rfl); (focus (first | (simp only [Lk.pv, Sd.pv, Lk.ng, Lk.al, Sd.ng, Sd.al, List.take_zero, List.take_succ_cons, List.take_nil, List.drop_zero, List.drop_succ_cons, List.drop_nil, List.nil_append, List.cons_append, List.append_nil, List.map_cons, List.map_nil, List.replicate_succ, List.replicate_zero, List.flatten_cons, List.flatten_nil, Nat.zero_add, Nat.reduceAdd, chunk]; rfl) | rfl))) | (apply fill_agg; (focus rfl); (focus rfl); (focus exact Nat.le_of_ble_eq_true rfl); (focus (first | (simp only [Lk.pv, Sd.pv, Lk.ng, Lk.al, Sd.ng, Sd.al, List.take_zero, List.take_succ_cons, List.take_nil, List.drop_zero, List.drop_succ_cons, List.drop_nil, List.nil_append, List.cons_append, List.append_nil, List.map_cons, List.map_nil, List.replicate_succ, List.replicate_zero, List.flatten_cons, List.flatten_nil, Nat.zero_add, Nat.reduceAdd, chunk]; rfl) | rfl))) | (apply fill_sl rfl (Nat.le_of_ble_eq_true rfl); (focus (first | (simp only [Lk.pv, Sd.pv, Lk.ng, Lk.al, Sd.ng, Sd.al, List.take_zero, List.take_succ_cons, List.take_nil, List.drop_zero, List.drop_succ_cons, List.drop_nil, List.nil_append, List.cons_append, List.append_nil, List.map_cons, List.map_nil, List.replicate_succ, List.replicate_zero, List.flatten_cons, List.flatten_nil, Nat.zero_add, Nat.reduceAdd, chunk]; rfl) | rfl))) | (apply fill_fn rfl (Nat.le_of_ble_eq_true rfl); (focus (first | (simp only [Lk.pv, Sd.pv, Lk.ng, Lk.al, Sd.ng, Sd.al, List.take_zero, List.take_succ_cons, List.take_nil, List.drop_zero, List.drop_succ_cons, List.drop_nil, List.nil_append, List.cons_append, List.append_nil, List.map_cons, List.map_nil, List.replicate_succ, List.replicate_zero, List.flatten_cons, List.flatten_nil, Nat.zero_add, Nat.reduceAdd, chunk]; rfl) | rfl))) | (apply fill_ptr rfl (Nat.le_of_ble_eq_true rfl); (focus (first | (simp only [Lk.pv, Sd.pv, Lk.ng, Lk.al, Sd.ng, Sd.al, List.take_zero, List.take_succ_cons, List.take_nil, List.drop_zero, List.drop_succ_cons, List.drop_nil, List.nil_append, List.cons_append, List.append_nil, List.map_cons, List.map_nil, List.replicate_succ, List.replicate_zero, List.flatten_cons, List.flatten_nil, Nat.zero_add, Nat.reduceAdd, chunk]; rfl) | rfl)))))); (focus rfl); (focus (first | (simp only [Lk.pv, Sd.pv, Lk.ng, Lk.al, Sd.ng, Sd.al, List.take_zero, List.take_succ_cons, List.take_nil, List.drop_zero, List.drop_succ_cons, List.drop_nil, List.nil_append, List.cons_append, List.append_nil, List.map_cons, List.map_nil, List.replicate_succ, List.replicate_zero, List.flatten_cons, List.flatten_nil, Nat.zero_add, Nat.reduceAdd, chunk]; rfl) | rfl)))
          | (apply q_mkfn; (focus (repeat' (first | exact mapE_nil | (apply mapE_p; (focus rfl)) | (apply mapE_ptr; (focus rfl)) | (apply mapE_ref; (focus rfl)) | (apply mapE_agg; (focus rfl)) | (apply mapE_fn; (focus rfl)) | (apply mapE_sl; (focus rfl))))))
          )
        have hs := hbs j (by omega)
        clear hbs hbd hwb ht1 ht2 hdis
        rotate_left 1
        clear hbs hbd ht1 ht2 hdis
        rotate_right 1
        all_goals skip
        repeat' (first
          | refine q_iadrA_ref rfl rfl (by omega) (by omega) rfl ?_
          | refine q_eqA_nf rfl rfl eqC4 ?_
          | refine q_call (fun S => ASpec.fg (spec37 S _ l _ _)) ?_
          | refine q_call (fun S => ASpec.fg (t37N S _ l i (by omega) _ _)) ?_
          | refine q_call (fun S => spec32 S) ?_
          | refine q_eqB_refl rfl rfl ?_
          | refine q_eqA_t rfl rfl eqC2 ?_
          | refine q_seq ?_
          | (refine q_reg fun n' hn' => ?_; simp only [List.length_cons, List.length_nil, Nat.zero_add, Nat.reduceAdd] at hn')
          | refine q_mov_p rfl ?_
          | refine q_on rfl ?_
          | refine q_off rfl rfl ?_
          | refine q_off_tup rfl ?_
          | refine q_mov_agg rfl ?_
          | refine q_lss rfl rfl (fun h => ?_) (fun h => ?_)
          | refine q_leq rfl rfl (fun h => ?_) (fun h => ?_)
          | refine q_gtr rfl rfl (fun h => ?_) (fun h => ?_)
          | refine q_geq rfl rfl (fun h => ?_) (fun h => ?_)
          | refine q_eql rfl rfl (fun h => ?_) (fun h => ?_)
          | refine q_neq rfl rfl (fun h => ?_) (fun h => ?_)
          | refine q_pick_t rfl ?_
          | refine q_pick_f rfl ?_
          | refine q_nil_drawn trivial ?_
          | refine q_nil_drawn (sep1 rfl rfl (by omega) trivial) ?_
          | refine q_nil_drawn (sep1 rfl rfl (by omega) (sep1 rfl rfl (by omega) trivial)) ?_
          | refine q_nil ?_
          | refine q_normal ?_
          | refine q_cond_t rfl ?_
          | refine q_cond_f rfl ?_
          | refine q_block ?_
          | refine q_exit ?_
          | refine q_ret ?_
          | refine q_skip ?_
          | refine q_seq_exit ?_
          | refine q_loop_exit ?_
          | refine q_loop_ret ?_
          | refine q_seq_ret ?_
          | refine q_block_normal ?_
          | refine q_block_ret ?_
          | refine q_block_hit ?_
          | refine q_block_miss rfl ?_
          | refine q_add rfl rfl (wrap64 (by omega)) ?_
          | refine q_sub rfl rfl (wrap64 (by omega)) ?_
          | refine q_mul rfl rfl (wrap64 (by omega)) ?_
          | refine q_mul31 rfl rfl (by omega) (by omega) (fun hm1 hm2 => ?_)
          | refine q_neg rfl (wrap64 (by omega)) ?_
          | refine q_not rfl rfl ?_
          | refine q_eqB rfl rfl rfl ?_
          | (refine q_alloc fun k hk => ?_)
          | (refine q_box_agg rfl fun k hk => ?_)
          | (refine q_box_p rfl fun k hk => ?_)
          | (refine q_box_sl rfl fun k hk => ?_)
          | (refine q_box_fn rfl fun k hk => ?_)
          | refine q_fadr rfl rfl ?_
          | refine q_fadr_ref rfl rfl ?_
          | refine q_mov_ptr rfl ?_
          | refine q_mov_ref rfl ?_
          | refine q_mov_sl rfl ?_
          | refine q_mov_fn rfl ?_
          | refine q_load1_ref rfl rfl ?_
          | refine q_loadA_ref rfl (Nat.le_of_ble_eq_true rfl) (by first | (simp only [Lk.pv, Sd.pv, Lk.ng, Lk.al, Sd.ng, Sd.al, List.take_zero, List.take_succ_cons, List.take_nil, List.drop_zero, List.drop_succ_cons, List.drop_nil, List.nil_append, List.cons_append, List.append_nil, List.map_cons, List.map_nil, List.replicate_succ, List.replicate_zero, List.flatten_cons, List.flatten_nil, Nat.zero_add, Nat.reduceAdd, chunk]; rfl) | rfl) ?_
          | refine q_load1 rfl (by repeat (first | exact get_same | refine get_other (by omega) ?_)) rfl ?_
          | refine q_loadA rfl (by repeat (first | exact get_same | refine get_other (by omega) ?_)) (Nat.le_of_ble_eq_true rfl) (by first | (simp only [Lk.pv, Sd.pv, Lk.ng, Lk.al, Sd.ng, Sd.al, List.take_zero, List.take_succ_cons, List.take_nil, List.drop_zero, List.drop_succ_cons, List.drop_nil, List.nil_append, List.cons_append, List.append_nil, List.map_cons, List.map_nil, List.replicate_succ, List.replicate_zero, List.flatten_cons, List.flatten_nil, Nat.zero_add, Nat.reduceAdd, chunk]; rfl) | rfl) ?_
          | refine q_store_agg rfl (by repeat (first | exact get_same | refine get_other (by omega) ?_)) rfl rfl (Nat.le_of_ble_eq_true rfl) (by first | (simp only [Lk.pv, Sd.pv, Lk.ng, Lk.al, Sd.ng, Sd.al, List.take_zero, List.take_succ_cons, List.take_nil, List.drop_zero, List.drop_succ_cons, List.drop_nil, List.nil_append, List.cons_append, List.append_nil, List.map_cons, List.map_nil, List.replicate_succ, List.replicate_zero, List.flatten_cons, List.flatten_nil, Nat.zero_add, Nat.reduceAdd, chunk]; rfl) | rfl) ?_
          | refine q_store_p rfl (by repeat (first | exact get_same | refine get_other (by omega) ?_)) rfl (Nat.le_of_ble_eq_true rfl) (by first | (simp only [Lk.pv, Sd.pv, Lk.ng, Lk.al, Sd.ng, Sd.al, List.take_zero, List.take_succ_cons, List.take_nil, List.drop_zero, List.drop_succ_cons, List.drop_nil, List.nil_append, List.cons_append, List.append_nil, List.map_cons, List.map_nil, List.replicate_succ, List.replicate_zero, List.flatten_cons, List.flatten_nil, Nat.zero_add, Nat.reduceAdd, chunk]; rfl) | rfl) ?_
          | refine q_store_sl rfl (by repeat (first | exact get_same | refine get_other (by omega) ?_)) rfl (Nat.le_of_ble_eq_true rfl) (by first | (simp only [Lk.pv, Sd.pv, Lk.ng, Lk.al, Sd.ng, Sd.al, List.take_zero, List.take_succ_cons, List.take_nil, List.drop_zero, List.drop_succ_cons, List.drop_nil, List.nil_append, List.cons_append, List.append_nil, List.map_cons, List.map_nil, List.replicate_succ, List.replicate_zero, List.flatten_cons, List.flatten_nil, Nat.zero_add, Nat.reduceAdd, chunk]; rfl) | rfl) ?_
          | refine q_store_fn rfl (by repeat (first | exact get_same | refine get_other (by omega) ?_)) rfl (Nat.le_of_ble_eq_true rfl) (by first | (simp only [Lk.pv, Sd.pv, Lk.ng, Lk.al, Sd.ng, Sd.al, List.take_zero, List.take_succ_cons, List.take_nil, List.drop_zero, List.drop_succ_cons, List.drop_nil, List.nil_append, List.cons_append, List.append_nil, List.map_cons, List.map_nil, List.replicate_succ, List.replicate_zero, List.flatten_cons, List.flatten_nil, Nat.zero_add, Nat.reduceAdd, chunk]; rfl) | rfl) ?_
          | refine q_lenS_map rfl ?_
          | refine q_lenS rfl ?_
          | refine q_nil_drawn trivial ?_
          | (refine q_drawn fun n' hn' => ?_; simp only [List.length_cons, List.length_nil, Nat.zero_add, Nat.reduceAdd] at hn')
          | refine q_iadrS_nat rfl rfl (get_map (by omega)) rfl ?_
          | refine q_iadrA rfl rfl (by omega) (by omega) rfl ?_
          | refine q_ext rfl rfl ?_
          | refine q_min2 rfl rfl ?_
          | refine q_max2 rfl rfl ?_
          | (apply q_build; (focus (repeat' (first | exact fill_nil | (apply fill_p rfl (Nat.le_of_ble_eq_true rfl); (focus (first | (simp only [Lk.pv, Sd.pv, Lk.ng, Lk.al, Sd.ng, Sd.al, List.take_zero, List.take_succ_cons, List.take_nil, List.drop_zero, List.drop_succ_cons, List.drop_nil, List.nil_append, List.cons_append, List.append_nil, List.map_cons, List.map_nil, List.replicate_succ, List.replicate_zero, List.flatten_cons, List.flatten_nil, Nat.zero_add, Nat.reduceAdd, chunk]; rfl) | rfl))) | (apply fill_agg; (focus rfl); (focus rfl); (focus exact Nat.le_of_ble_eq_true rfl); (focus (first | (simp only [Lk.pv, Sd.pv, Lk.ng, Lk.al, Sd.ng, Sd.al, List.take_zero, List.take_succ_cons, List.take_nil, List.drop_zero, List.drop_succ_cons, List.drop_nil, List.nil_append, List.cons_append, List.append_nil, List.map_cons, List.map_nil, List.replicate_succ, List.replicate_zero, List.flatten_cons, List.flatten_nil, Nat.zero_add, Nat.reduceAdd, chunk]; rfl) | rfl))) | (apply fill_sl rfl (Nat.le_of_ble_eq_true rfl); (focus (first | (simp only [Lk.pv, Sd.pv, Lk.ng, Lk.al, Sd.ng, Sd.al, List.take_zero, List.take_succ_cons, List.take_nil, List.drop_zero, List.drop_succ_cons, List.drop_nil, List.nil_append, List.cons_append, List.append_nil, List.map_cons, List.map_nil, List.replicate_succ, List.replicate_zero, List.flatten_cons, List.flatten_nil, Nat.zero_add, Nat.reduceAdd, chunk]; rfl) | rfl))) | (apply fill_fn rfl (Nat.le_of_ble_eq_true rfl); (focus (first | (simp only [Lk.pv, Sd.pv, Lk.ng, Lk.al, Sd.ng, Sd.al, List.take_zero, List.take_succ_cons, List.take_nil, List.drop_zero, List.drop_succ_cons, List.drop_nil, List.nil_append, List.cons_append, List.append_nil, List.map_cons, List.map_nil, List.replicate_succ, List.replicate_zero, List.flatten_cons, List.flatten_nil, Nat.zero_add, Nat.reduceAdd, chunk]; rfl) | rfl))) | (apply fill_ptr rfl (Nat.le_of_ble_eq_true rfl); (focus (first | (simp only [Lk.pv, Sd.pv, Lk.ng, Lk.al, Sd.ng, Sd.al, List.take_zero, List.take_succ_cons, List.take_nil, List.drop_zero, List.drop_succ_cons, List.drop_nil, List.nil_append, List.cons_append, List.append_nil, List.map_cons, List.map_nil, List.replicate_succ, List.replicate_zero, List.flatten_cons, List.flatten_nil, Nat.zero_add, Nat.reduceAdd, chunk]; rfl) | rfl)))))))
          | refine q_mov_out rfl ?_
          | refine q_mov_tup rfl ?_
          | (apply q_bslice; (focus (repeat' (first | exact fill_nil | (apply fill_p rfl (Nat.le_of_ble_eq_true rfl); (focus (first | (simp only [Lk.pv, Sd.pv, Lk.ng, Lk.al, Sd.ng, Sd.al, List.take_zero, List.take_succ_cons, List.take_nil, List.drop_zero, List.drop_succ_cons, List.drop_nil, List.nil_append, List.cons_append, List.append_nil, List.map_cons, List.map_nil, List.replicate_succ, List.replicate_zero, List.flatten_cons, List.flatten_nil, Nat.zero_add, Nat.reduceAdd, chunk]; rfl) | rfl))) | (apply fill_agg; (focus rfl); (focus rfl); (focus exact Nat.le_of_ble_eq_true rfl); (focus (first | (simp only [Lk.pv, Sd.pv, Lk.ng, Lk.al, Sd.ng, Sd.al, List.take_zero, List.take_succ_cons, List.take_nil, List.drop_zero, List.drop_succ_cons, List.drop_nil, List.nil_append, List.cons_append, List.append_nil, List.map_cons, List.map_nil, List.replicate_succ, List.replicate_zero, List.flatten_cons, List.flatten_nil, Nat.zero_add, Nat.reduceAdd, chunk]; rfl) | rfl))) | (apply fill_sl rfl (Nat.le_of_ble_eq_true rfl); (focus (first | (simp only [Lk.pv, Sd.pv, Lk.ng, Lk.al, Sd.ng, Sd.al, List.take_zero, List.take_succ_cons, List.take_nil, List.drop_zero, List.drop_succ_cons, List.drop_nil, List.nil_append, List.cons_append, List.append_nil, List.map_cons, List.map_nil, List.replicate_succ, List.replicate_zero, List.flatten_cons, List.flatten_nil, Nat.zero_add, Nat.reduceAdd, chunk]; rfl) | rfl))) | (apply fill_fn rfl (Nat.le_of_ble_eq_true rfl); (focus (first | (simp only [Lk.pv, Sd.pv, Lk.ng, Lk.al, Sd.ng, Sd.al, List.take_zero, List.take_succ_cons, List.take_nil, List.drop_zero, List.drop_succ_cons, List.drop_nil, List.nil_append, List.cons_append, List.append_nil, List.map_cons, List.map_nil, List.replicate_succ, List.replicate_zero, List.flatten_cons, List.flatten_nil, Nat.zero_add, Nat.reduceAdd, chunk]; rfl) | rfl))) | (apply fill_ptr rfl (Nat.le_of_ble_eq_true rfl); (focus (first | (simp only [Lk.pv, Sd.pv, Lk.ng, Lk.al, Sd.ng, Sd.al, List.take_zero, List.take_succ_cons, List.take_nil, List.drop_zero, List.drop_succ_cons, List.drop_nil, List.nil_append, List.cons_append, List.append_nil, List.map_cons, List.map_nil, List.replicate_succ, List.replicate_zero, List.flatten_cons, List.flatten_nil, Nat.zero_add, Nat.reduceAdd, chunk]; rfl) | rfl)))))); (focus rfl); (focus (first | (simp only [Lk.pv, Sd.pv, Lk.ng, Lk.al, Sd.ng, Sd.al, List.take_zero, List.take_succ_cons, List.take_nil, List.drop_zero, List.drop_succ_cons, List.drop_nil, List.nil_append, List.cons_append, List.append_nil, List.map_cons, List.map_nil, List.replicate_succ, List.replicate_zero, List.flatten_cons, List.flatten_nil, Nat.zero_add, Nat.reduceAdd, chunk]; rfl) | rfl)))
          | (apply q_mkfn; (focus (repeat' (first | exact mapE_nil | (apply mapE_p; (focus rfl)) | (apply mapE_ptr; (focus rfl)) | (apply mapE_ref; (focus rfl)) | (apply mapE_agg; (focus rfl)) | (apply mapE_fn; (focus rfl)) | (apply mapE_sl; (focus rfl))))))
          )
        · exact q_loop_normal (j + 1) (by omega) (by omega) (wk_mk hwf (by omega) (by omega) (by first | trivial | (simp only [keysP, and_true]; omega) | (repeat' (first | exact trivial | refine ⟨by omega, ?_⟩ | exact keys_vecB (fun k hk => by have := htk k hk; omega) trivial))) trivial (by simp only [fitsP]; repeat' (first | exact trivial | refine ⟨?_, ?_⟩ | exact .same trivial | exact wkV_out0 | exact wkV_out_eq hout (by omega) | exact wkV_ptr (by omega) | exact .same (under_mono (by omega) hu.1) | exact .same (under_mono (by omega) hu.2.1) | exact .same (under_mono (by omega) hu.2.2.1) | exact wkV_int (by omega) | exact wkV_int (by simp) | exact .no _ _ _)))
        · (refine q_fin_bool hwf rfl ?_ ?_ ?_; (focus (rfl)); (focus (first | trivial | (simp only [keysP, and_true]; omega) | (repeat' (first | exact trivial | refine ⟨by omega, ?_⟩ | exact keys_vecB (fun k hk => by have := htk k hk; omega) trivial)))); omega)
end Go.Proofs.Ytinenepjloodcaa

