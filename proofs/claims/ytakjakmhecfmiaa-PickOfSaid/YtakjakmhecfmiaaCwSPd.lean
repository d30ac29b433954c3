/- CONTRACTS: copies, merging, sorting of halves. -/
import Derived.Test.YtakjakmhecfmiaaCwSPb
import Derived.Test.YtakjakmhecfmiaaCwSPc
set_option linter.unusedVariables false
set_option linter.unusedSimpArgs false
set_option maxHeartbeats 8000000
set_option maxRecDepth 20000
namespace Go.Proofs.Ytakjakmhecfmiaa
open Go.Cw
theorem asSl_out0 {xs : List (List PV)} : (outV xs none).asSl = some (true, xs, .full) := rfl
theorem asSl_out1 {xs : List (List PV)} {k : Nat} : (outV xs (some k)).asSl = some (false, xs, .vec k) := rfl
attribute [local irreducible] aops awp seqQ blockQ seqC loopQ endQ getB outV vecB

section
variable {P : Program} {m : CMode} {os : List AOper} {id : Nat} {F : Nat → AV} {S S0 : St} {K : (Nat → AV) → St → Prop} {d n : Nat} {H : List (Nat × Blk)} {x y c : Opd} {dst : Option Nat}
theorem q_gtr_t {k : IntKind} {a b : Int} (hx : evalO F x = .p (.int k a)) (hy : evalO F y = .p (.int k b)) (hb : b < a) (h : aops P m os (id + 1) (upd F d (.p (.bool true))) S K) : aops P m (⟨some d, .arith .gtr x y, none⟩ :: os) id F S K :=
  q_gtr hx hy (fun _ => h) (fun e => absurd hb (by omega))
theorem q_gtr_f {k : IntKind} {a b : Int} (hx : evalO F x = .p (.int k a)) (hy : evalO F y = .p (.int k b)) (hb : a ≤ b) (h : aops P m os (id + 1) (upd F d (.p (.bool false))) S K) : aops P m (⟨some d, .arith .gtr x y, none⟩ :: os) id F S K :=
  q_gtr hx hy (fun e => absurd hb (by omega)) (fun _ => h)
end

theorem rows4 (l : List Hf) : ∀ e ∈ l.map Hf.pv, e.length = 4 := rows_len (pv := Hf.pv) (fun _ => rfl) l

theorem rows4a (l r : List Hf) : ∀ e ∈ l.map Hf.pv ++ r.map Hf.pv, e.length = 4 := by
  intro e he
  rcases List.mem_append.1 he with h | h
  · exact rows4 l e h
  · exact rows4 r e h
theorem wkV_sl {n : Nat} {nl ml : Bool} {xs ys : List (List PV)} {t : Tok} (h1 : nl = ml) (h2 : xs = ys) : wkV n (.sl nl xs t) (.p (.sl ml ys)) := by subst h1; subst h2; exact .no _ _ _
theorem slOf_ne {xs : List (List PV)} (h : xs ≠ []) : pack [slOf xs] = .p (.sl false xs) := by
  cases xs with
  | nil => exact absurd rfl h
  | cons x xs => rfl
theorem specP30 (S : St) (nl : Bool) (l : List Hf) (hl : l.length ≤ 1048576) (hnl : nl = true → l = []) : ASpec Try.prog 30 [.p (.sl nl (l.map Hf.pv))] S (.p (.sl nl (l.map Hf.pv))) S := by
  refine q_fun hmix cP30 rfl (Nat.le_of_ble_eq_true rfl) fun hwf hu => ?_
  have hln : (l.map Hf.pv).length ≤ 1048576 := by simpa using hl
  cases nl with
  | true =>
    have h0 := hnl rfl
    subst h0
    repeat' (first
      | refine q_eqNil rfl rfl ?_
      | refine q_seq ?_
      | (refine q_reg fun n' hn' => ?_; simp only [List.length_cons, List.length_nil, Nat.zero_add, Nat.reduceAdd] at hn')
      | refine q_mov_p rfl ?_
      | refine q_mov_agg rfl ?_
      | refine q_nil ?_
      | refine q_normal ?_
      | refine q_cond_t rfl ?_
      | refine q_cond_f rfl ?_
      | refine q_ret ?_
      | refine q_skip ?_
      | refine q_seq_ret ?_
      | refine q_mov_ptr rfl ?_
      | refine q_mov_ref rfl ?_
      | refine q_mov_sl rfl ?_
      | refine q_mov_fn rfl ?_
      | refine q_mov_out rfl ?_
      | (apply q_bslice; (focus (repeat' (first | exact fill_nil | (apply fill_p rfl (Nat.le_of_ble_eq_true rfl); (focus (first | (simp only [Hf.pv, List.take_zero, List.take_succ_cons, List.take_nil, List.drop_zero, List.drop_succ_cons, List.drop_nil, List.nil_append, List.cons_append, List.append_nil, List.map_cons, List.map_nil, List.replicate_succ, List.replicate_zero, List.flatten_cons, List.flatten_nil, Nat.zero_add, Nat.reduceAdd, chunk]; rfl) | rfl))) | (apply fill_agg; (focus rfl); (focus rfl); (focus exact Nat.le_of_ble_eq_true rfl); (focus (first | (simp only [Hf.pv, List.take_zero, List.take_succ_cons, List.take_nil, List.drop_zero, List.drop_succ_cons, List.drop_nil, List.nil_append, List.cons_append, List.append_nil, List.map_cons, List.map_nil, List.replicate_succ, List.replicate_zero, List.flatten_cons, List.flatten_nil, Nat.zero_add, Nat.reduceAdd, chunk]; rfl) | rfl))) | (apply fill_sl rfl (Nat.le_of_ble_eq_true rfl); (focus (first | (simp only [Hf.pv, List.take_zero, List.take_succ_cons, List.take_nil, List.drop_zero, List.drop_succ_cons, List.drop_nil, List.nil_append, List.cons_append, List.append_nil, List.map_cons, List.map_nil, List.replicate_succ, List.replicate_zero, List.flatten_cons, List.flatten_nil, Nat.zero_add, Nat.reduceAdd, chunk]; rfl) | rfl))) | (apply fill_fn rfl (Nat.le_of_ble_eq_true rfl); (focus (first | (simp only [Hf.pv, List.take_zero, List.take_succ_cons, List.take_nil, List.drop_zero, List.drop_succ_cons, List.drop_nil, List.nil_append, List.cons_append, List.append_nil, List.map_cons, List.map_nil, List.replicate_succ, List.replicate_zero, List.flatten_cons, List.flatten_nil, Nat.zero_add, Nat.reduceAdd, chunk]; rfl) | rfl))) | (apply fill_ptr rfl (Nat.le_of_ble_eq_true rfl); (focus (first | (simp only [Hf.pv, List.take_zero, List.take_succ_cons, List.take_nil, List.drop_zero, List.drop_succ_cons, List.drop_nil, List.nil_append, List.cons_append, List.append_nil, List.map_cons, List.map_nil, List.replicate_succ, List.replicate_zero, List.flatten_cons, List.flatten_nil, Nat.zero_add, Nat.reduceAdd, chunk]; rfl) | rfl)))))); (focus rfl); (focus (first | (simp only [Hf.pv, List.take_zero, List.take_succ_cons, List.take_nil, List.drop_zero, List.drop_succ_cons, List.drop_nil, List.nil_append, List.cons_append, List.append_nil, List.map_cons, List.map_nil, List.replicate_succ, List.replicate_zero, List.flatten_cons, List.flatten_nil, Nat.zero_add, Nat.reduceAdd, chunk]; rfl) | rfl)))
      )
    all_goals refine q_end_ret hwf (res_cons (res_tmp rfl) res_nil) (.no _ _ _) (by first | trivial | (simp only [keysP, and_true]; omega) | (repeat' (first | exact trivial | refine ⟨by omega, ?_⟩ | exact keys_vecB (fun k hk => by have := htk k hk; omega) trivial))) (by omega)
  | false =>
    repeat' (first
      | refine q_eqNil rfl rfl ?_
      | refine q_append_new rfl rfl (by intro e he; cases he) (rows4 l) (by simp only [List.length_nil]; omega) (by simp only [List.length_nil]; omega) fun k9 hk9 => ?_
      | refine q_seq ?_
      | (refine q_reg fun n' hn' => ?_; simp only [List.length_cons, List.length_nil, Nat.zero_add, Nat.reduceAdd] at hn')
      | refine q_mov_p rfl ?_
      | refine q_mov_agg rfl ?_
      | refine q_nil ?_
      | refine q_normal ?_
      | refine q_cond_t rfl ?_
      | refine q_cond_f rfl ?_
      | refine q_ret ?_
      | refine q_skip ?_
      | refine q_seq_ret ?_
      | refine q_mov_ptr rfl ?_
      | refine q_mov_ref rfl ?_
      | refine q_mov_sl rfl ?_
      | refine q_mov_fn rfl ?_
      | refine q_mov_out rfl ?_
      | (apply q_bslice; (focus (repeat' (first | exact fill_nil | (apply fill_p rfl (Nat.le_of_ble_eq_true rfl); (focus (first | (simp only [Hf.pv, List.take_zero, List.take_succ_cons, List.take_nil, List.drop_zero, List.drop_succ_cons, List.drop_nil, List.nil_append, List.cons_append, List.append_nil, List.map_cons, List.map_nil, List.replicate_succ, List.replicate_zero, List.flatten_cons, List.flatten_nil, Nat.zero_add, Nat.reduceAdd, chunk]; rfl) | rfl))) | (apply fill_agg; (focus rfl); (focus rfl); (focus exact Nat.le_of_ble_eq_true rfl); (focus (first | (simp only [Hf.pv, List.take_zero, List.take_succ_cons, List.take_nil, List.drop_zero, List.drop_succ_cons, List.drop_nil, List.nil_append, List.cons_append, List.append_nil, List.map_cons, List.map_nil, List.replicate_succ, List.replicate_zero, List.flatten_cons, List.flatten_nil, Nat.zero_add, Nat.reduceAdd, chunk]; rfl) | rfl))) | (apply fill_sl rfl (Nat.le_of_ble_eq_true rfl); (focus (first | (simp only [Hf.pv, List.take_zero, List.take_succ_cons, List.take_nil, List.drop_zero, List.drop_succ_cons, List.drop_nil, List.nil_append, List.cons_append, List.append_nil, List.map_cons, List.map_nil, List.replicate_succ, List.replicate_zero, List.flatten_cons, List.flatten_nil, Nat.zero_add, Nat.reduceAdd, chunk]; rfl) | rfl))) | (apply fill_fn rfl (Nat.le_of_ble_eq_true rfl); (focus (first | (simp only [Hf.pv, List.take_zero, List.take_succ_cons, List.take_nil, List.drop_zero, List.drop_succ_cons, List.drop_nil, List.nil_append, List.cons_append, List.append_nil, List.map_cons, List.map_nil, List.replicate_succ, List.replicate_zero, List.flatten_cons, List.flatten_nil, Nat.zero_add, Nat.reduceAdd, chunk]; rfl) | rfl))) | (apply fill_ptr rfl (Nat.le_of_ble_eq_true rfl); (focus (first | (simp only [Hf.pv, List.take_zero, List.take_succ_cons, List.take_nil, List.drop_zero, List.drop_succ_cons, List.drop_nil, List.nil_append, List.cons_append, List.append_nil, List.map_cons, List.map_nil, List.replicate_succ, List.replicate_zero, List.flatten_cons, List.flatten_nil, Nat.zero_add, Nat.reduceAdd, chunk]; rfl) | rfl)))))); (focus rfl); (focus (first | (simp only [Hf.pv, List.take_zero, List.take_succ_cons, List.take_nil, List.drop_zero, List.drop_succ_cons, List.drop_nil, List.nil_append, List.cons_append, List.append_nil, List.map_cons, List.map_nil, List.replicate_succ, List.replicate_zero, List.flatten_cons, List.flatten_nil, Nat.zero_add, Nat.reduceAdd, chunk]; rfl) | rfl)))
      )
    all_goals refine q_end_ret hwf (res_cons (res_tmp rfl) res_nil) ?_ (by first | trivial | (simp only [keysP, and_true]; omega) | (repeat' (first | exact trivial | refine ⟨by omega, ?_⟩ | exact keys_vecB (fun k hk => by have := htk k hk; omega) trivial))) (by omega)
    all_goals exact .no _ _ _

/-! ### Merging -/

def mergeF (ls : Hf → Hf → Bool) : Nat → List Hf → List Hf → List Hf
  | 0, a, b => a ++ b
  | n + 1, a, b => match a, b with
    | x :: a, y :: b => if ls y x then y :: mergeF ls n (x :: a) b else x :: mergeF ls n a (y :: b)
    | a, b => a ++ b
def mergeL (ls : Hf → Hf → Bool) (a b : List Hf) : List Hf := mergeF ls (a.length + b.length) a b
theorem mergeL_cons {ls : Hf → Hf → Bool} {x y : Hf} {a b : List Hf} : mergeL ls (x :: a) (y :: b) = if ls y x then y :: mergeL ls (x :: a) b else x :: mergeL ls a (y :: b) := by
  simp only [mergeL, List.length_cons]
  rw [show a.length + 1 + (b.length + 1) = (a.length + 1 + b.length) + 1 by omega, show a.length + (b.length + 1) = a.length + 1 + b.length by omega]
  rfl
theorem mergeL_nil_l {ls : Hf → Hf → Bool} {b : List Hf} : mergeL ls [] b = b := by
  simp only [mergeL]
  generalize ([] : List Hf).length + b.length = n
  cases n <;> simp [mergeF]
theorem mergeL_nil_r {ls : Hf → Hf → Bool} {a : List Hf} : mergeL ls a [] = a := by
  simp only [mergeL]
  generalize a.length + ([] : List Hf).length = n
  cases n <;> simp [mergeF]
theorem mergeF_len {ls : Hf → Hf → Bool} : ∀ (n : Nat) (a b : List Hf), (mergeF ls n a b).length = a.length + b.length
  | 0, a, b => by simp [mergeF]
  | n + 1, [], b => by simp [mergeF]
  | n + 1, x :: a, [] => by simp [mergeF]
  | n + 1, x :: a, y :: b => by
    simp only [mergeF]
    split
    · simp only [List.length_cons, mergeF_len n]; omega
    · simp only [List.length_cons, mergeF_len n]; omega
theorem mergeL_len {ls : Hf → Hf → Bool} {a b : List Hf} : (mergeL ls a b).length = a.length + b.length := mergeF_len _ _ _

theorem sl1 {x : Hf} {l : List Hf} : (((x :: l).map Hf.pv).take ((l.length + 1 : Nat) : Int).toNat).drop (1 : Int).toNat = l.map Hf.pv := by
  simp [List.take_of_length_le]

structure MG where
  a : List Hf
  b : List Hf
  out : List Hf
  n : Nat
  tk : Option Nat

theorem specP31 (S : St) (na nb : Bool) (a b : List Hf) (hl : a.length + b.length ≤ 1048576) (ls : Hf → Hf → Bool) (f : Nat) (caps : List AV) (hc : callable Try.prog f = true)
    (hf : ∀ x y S, ASpec Try.prog f ([.agg (x.pv.map .p), .agg (y.pv.map .p)] ++ caps) S (vb (ls x y)) S) : ASpec Try.prog 31 [.p (.sl na (a.map Hf.pv)), .p (.sl nb (b.map Hf.pv)), .fn f caps] S (slOf ((mergeL ls a b).map Hf.pv)) S := by
  refine q_fun hmix cP31 rfl (Nat.le_of_ble_eq_true rfl) fun hwf hu => ?_
  have hu1 : AV.underL S.n caps := hu.2.2.1
  repeat' (first
    | refine q_seq ?_
    | (refine q_reg fun n' hn' => ?_; simp only [List.length_cons, List.length_nil, Nat.zero_add, Nat.reduceAdd] at hn')
    | refine q_mov_p rfl ?_
    | refine q_on rfl ?_
    | refine q_off rfl rfl ?_
    | refine q_off_tup rfl ?_
    | refine q_mov_agg rfl ?_
    | refine q_gtr rfl rfl (fun h => ?_) (fun h => ?_)
    | refine q_pick_t rfl ?_
    | refine q_pick_f rfl ?_
    | refine q_nil_drawn trivial ?_
    | refine q_nil_drawn (sep1 rfl rfl (by omega) trivial) ?_
    | refine q_nil_drawn (sep1 rfl rfl (by omega) (sep1 rfl rfl (by omega) trivial)) ?_
    | refine q_nil ?_
    | refine q_normal ?_
    | refine q_cond_t rfl ?_
    | refine q_cond_f rfl ?_
    | refine q_block ?_
    | refine q_exit ?_
    | refine q_ret ?_
    | refine q_skip ?_
    | refine q_seq_exit ?_
    | refine q_loop_exit ?_
    | refine q_loop_ret ?_
    | refine q_seq_ret ?_
    | refine q_block_normal ?_
    | refine q_block_ret ?_
    | refine q_block_hit ?_
    | refine q_block_miss rfl ?_
    | refine q_mov_ptr rfl ?_
    | refine q_mov_ref rfl ?_
    | refine q_mov_sl rfl ?_
    | refine q_mov_fn rfl ?_
    | refine q_loadA_ref rfl (Nat.le_of_ble_eq_true rfl) (by first | (simp only [Hf.pv, List.take_zero, List.take_succ_cons, List.take_nil, List.drop_zero, List.drop_succ_cons, List.drop_nil, List.nil_append, List.cons_append, List.append_nil, List.map_cons, List.map_nil, List.replicate_succ, List.replicate_zero, List.flatten_cons, List.flatten_nil, Nat.zero_add, Nat.reduceAdd, chunk]; rfl) | rfl) ?_
    | refine q_loadA rfl (by repeat (first | exact get_same | refine get_other (by omega) ?_)) (Nat.le_of_ble_eq_true rfl) (by first | (simp only [Hf.pv, List.take_zero, List.take_succ_cons, List.take_nil, List.drop_zero, List.drop_succ_cons, List.drop_nil, List.nil_append, List.cons_append, List.append_nil, List.map_cons, List.map_nil, List.replicate_succ, List.replicate_zero, List.flatten_cons, List.flatten_nil, Nat.zero_add, Nat.reduceAdd, chunk]; rfl) | rfl) ?_
    | refine q_lenS_map rfl ?_
    | refine q_lenS rfl ?_
    | refine q_nil_drawn trivial ?_
    | (refine q_drawn fun n' hn' => ?_; simp only [List.length_cons, List.length_nil, Nat.zero_add, Nat.reduceAdd] at hn')
    | refine q_iadrS_nat rfl rfl (get_map (by omega)) rfl ?_
    | refine q_mov_out rfl ?_
    | refine q_mov_tup rfl ?_
    | (apply q_bslice; (focus (repeat' (first | exact fill_nil | (apply fill_p rfl (Nat.le_of_ble_eq_true rfl); (focus (first | (simp only [Hf.pv, List.take_zero, List.take_succ_cons, List.take_nil, List.drop_zero, List.drop_succ_cons, List.drop_nil, List.nil_append, List.cons_append, List.append_nil, List.map_cons, List.map_nil, List.replicate_succ, List.replicate_zero, List.flatten_cons, List.flatten_nil, Nat.zero_add, Nat.reduceAdd, chunk]; rfl) | rfl))) | (apply fill_agg; (focus rfl); (focus rfl); (focus exact Nat.le_of_ble_eq_true rfl); (focus (first | (simp only [Hf.pv, List.take_zero, List.take_succ_cons, List.take_nil, List.drop_zero, List.drop_succ_cons, List.drop_nil, List.nil_append, List.cons_append, List.append_nil, List.map_cons, List.map_nil, List.replicate_succ, List.replicate_zero, List.flatten_cons, List.flatten_nil, Nat.zero_add, Nat.reduceAdd, chunk]; rfl) | rfl))) | (apply fill_sl rfl (Nat.le_of_ble_eq_true rfl); (focus (first | (simp only [Hf.pv, List.take_zero, List.take_succ_cons, List.take_nil, List.drop_zero, List.drop_succ_cons, List.drop_nil, List.nil_append, List.cons_append, List.append_nil, List.map_cons, List.map_nil, List.replicate_succ, List.replicate_zero, List.flatten_cons, List.flatten_nil, Nat.zero_add, Nat.reduceAdd, chunk]; rfl) | rfl))) | (apply fill_fn rfl (Nat.le_of_ble_eq_true rfl); (focus (first | (simp only [Hf.pv, List.take_zero, List.take_succ_cons, List.take_nil, List.drop_zero, List.drop_succ_cons, List.drop_nil, List.nil_append, List.cons_append, List.append_nil, List.map_cons, List.map_nil, List.replicate_succ, List.replicate_zero, List.flatten_cons, List.flatten_nil, Nat.zero_add, Nat.reduceAdd, chunk]; rfl) | rfl))) | (apply fill_ptr rfl (Nat.le_of_ble_eq_true rfl); (focus (first | (simp only [Hf.pv, List.take_zero, List.take_succ_cons, List.take_nil, List.drop_zero, List.drop_succ_cons, List.drop_nil, List.nil_append, List.cons_append, List.append_nil, List.map_cons, List.map_nil, List.replicate_succ, List.replicate_zero, List.flatten_cons, List.flatten_nil, Nat.zero_add, Nat.reduceAdd, chunk]; rfl) | rfl)))))); (focus rfl); (focus (first | (simp only [Hf.pv, List.take_zero, List.take_succ_cons, List.take_nil, List.drop_zero, List.drop_succ_cons, List.drop_nil, List.nil_append, List.cons_append, List.append_nil, List.map_cons, List.map_nil, List.replicate_succ, List.replicate_zero, List.flatten_cons, List.flatten_nil, Nat.zero_add, Nat.reduceAdd, chunk]; rfl) | rfl)))
    )
  refine q_loop (γ := MG) (fun g => [(0, .p (.sl na (g.a.map Hf.pv))), (1, .p (.sl nb (g.b.map Hf.pv))), (2, .fn f caps), (7, outV (g.out.map Hf.pv) g.tk)]) (fun g => ST S g.n (vecB g.tk (g.out.map Hf.pv).length 4 []))
    (fun g => g.out ++ mergeL ls g.a g.b = mergeL ls a b ∧ n' ≤ g.n ∧ g.out.length + g.a.length + g.b.length = a.length + b.length ∧ (g.tk = none → g.out = []) ∧ ∀ k, g.tk = some k → n' ≤ k ∧ k < g.n ∧ g.out ≠ []) (fun g => g.a.length + g.b.length) ⟨a, b, [], n', none⟩ (by simp) ?_ ?_
  · exact wk_mk hwf (by simp only; omega) (by simp) (by first | trivial | (simp only [keysP, and_true]; omega) | (repeat' (first | exact trivial | refine ⟨by omega, ?_⟩ | exact keys_vecB (fun k hk => by have := htk k hk; omega) trivial))) (blks_vecB (fun k hk => by cases hk) trivial) (by simp only [fitsP]; repeat' (first | exact trivial | refine ⟨?_, ?_⟩ | exact .same trivial | exact wkV_out0 | exact wkV_out_eq hout (by omega) | exact wkV_ptr (by omega) | exact wkV_mapv (by omega) | exact .same (under_mono (by omega) hu.1) | exact .same (under_mono (by omega) hu.2.1) | exact .same (under_mono (by omega) hu.2.2.1) | exact wkV_int (by omega) | exact wkV_int (by simp) | exact .no _ _ _))
  · rintro ⟨a1, b1, out, n0, tk⟩ ⟨hm, hn0, hlen, htk0, htk⟩
    dsimp only at *
    have hln : (out.map Hf.pv).length ≤ 1048576 := by rw [List.length_map]; omega
    have fin : a1 = [] ∨ b1 = [] → mergeL ls a b = out ++ a1 ++ b1 := by
      rintro (h | h) <;> subst h
      · rw [← hm, mergeL_nil_l]; simp
      · rw [← hm, mergeL_nil_r]; simp
    cases a1 with
    | nil =>
      repeat' (first
        | refine q_gtr_t rfl rfl (by simp only [List.length_cons]; omega) ?_
        | refine q_gtr_f rfl rfl (by simp) ?_
        | refine q_seq ?_
        | (refine q_reg fun n' hn' => ?_; simp only [List.length_cons, List.length_nil, Nat.zero_add, Nat.reduceAdd] at hn')
        | refine q_mov_p rfl ?_
        | refine q_on rfl ?_
        | refine q_off rfl rfl ?_
        | refine q_off_tup rfl ?_
        | refine q_mov_agg rfl ?_
        | refine q_gtr rfl rfl (fun h => ?_) (fun h => ?_)
        | refine q_pick_t rfl ?_
        | refine q_pick_f rfl ?_
        | refine q_nil_drawn trivial ?_
        | refine q_nil_drawn (sep1 rfl rfl (by omega) trivial) ?_
        | refine q_nil_drawn (sep1 rfl rfl (by omega) (sep1 rfl rfl (by omega) trivial)) ?_
        | refine q_nil ?_
        | refine q_normal ?_
        | refine q_cond_t rfl ?_
        | refine q_cond_f rfl ?_
        | refine q_block ?_
        | refine q_exit ?_
        | refine q_ret ?_
        | refine q_skip ?_
        | refine q_seq_exit ?_
        | refine q_loop_exit ?_
        | refine q_loop_ret ?_
        | refine q_seq_ret ?_
        | refine q_block_normal ?_
        | refine q_block_ret ?_
        | refine q_block_hit ?_
        | refine q_block_miss rfl ?_
        | refine q_mov_ptr rfl ?_
        | refine q_mov_ref rfl ?_
        | refine q_mov_sl rfl ?_
        | refine q_mov_fn rfl ?_
        | refine q_loadA_ref rfl (Nat.le_of_ble_eq_true rfl) (by first | (simp only [Hf.pv, List.take_zero, List.take_succ_cons, List.take_nil, List.drop_zero, List.drop_succ_cons, List.drop_nil, List.nil_append, List.cons_append, List.append_nil, List.map_cons, List.map_nil, List.replicate_succ, List.replicate_zero, List.flatten_cons, List.flatten_nil, Nat.zero_add, Nat.reduceAdd, chunk]; rfl) | rfl) ?_
        | refine q_loadA rfl (by repeat (first | exact get_same | refine get_other (by omega) ?_)) (Nat.le_of_ble_eq_true rfl) (by first | (simp only [Hf.pv, List.take_zero, List.take_succ_cons, List.take_nil, List.drop_zero, List.drop_succ_cons, List.drop_nil, List.nil_append, List.cons_append, List.append_nil, List.map_cons, List.map_nil, List.replicate_succ, List.replicate_zero, List.flatten_cons, List.flatten_nil, Nat.zero_add, Nat.reduceAdd, chunk]; rfl) | rfl) ?_
        | refine q_lenS_map rfl ?_
        | refine q_lenS rfl ?_
        | refine q_nil_drawn trivial ?_
        | (refine q_drawn fun n' hn' => ?_; simp only [List.length_cons, List.length_nil, Nat.zero_add, Nat.reduceAdd] at hn')
        | refine q_iadrS_nat rfl rfl (get_map (by omega)) rfl ?_
        | refine q_mov_out rfl ?_
        | refine q_mov_tup rfl ?_
        | (apply q_bslice; (focus (repeat' (first | exact fill_nil | (apply fill_p rfl (Nat.le_of_ble_eq_true rfl); (focus (first | (simp only [Hf.pv, List.take_zero, List.take_succ_cons, List.take_nil, List.drop_zero, List.drop_succ_cons, List.drop_nil, List.nil_append, List.cons_append, List.append_nil, List.map_cons, List.map_nil, List.replicate_succ, List.replicate_zero, List.flatten_cons, List.flatten_nil, Nat.zero_add, Nat.reduceAdd, chunk]; rfl) | rfl))) | (apply fill_agg; (focus rfl); (focus rfl); (focus exact Nat.le_of_ble_eq_true rfl); (focus (first | (simp only [Hf.pv, List.take_zero, List.take_succ_cons, List.take_nil, List.drop_zero, List.drop_succ_cons, List.drop_nil, List.nil_append, List.cons_append, List.append_nil, List.map_cons, List.map_nil, List.replicate_succ, List.replicate_zero, List.flatten_cons, List.flatten_nil, Nat.zero_add, Nat.reduceAdd, chunk]; rfl) | rfl))) | (apply fill_sl rfl (Nat.le_of_ble_eq_true rfl); (focus (first | (simp only [Hf.pv, List.take_zero, List.take_succ_cons, List.take_nil, List.drop_zero, List.drop_succ_cons, List.drop_nil, List.nil_append, List.cons_append, List.append_nil, List.map_cons, List.map_nil, List.replicate_succ, List.replicate_zero, List.flatten_cons, List.flatten_nil, Nat.zero_add, Nat.reduceAdd, chunk]; rfl) | rfl))) | (apply fill_fn rfl (Nat.le_of_ble_eq_true rfl); (focus (first | (simp only [Hf.pv, List.take_zero, List.take_succ_cons, List.take_nil, List.drop_zero, List.drop_succ_cons, List.drop_nil, List.nil_append, List.cons_append, List.append_nil, List.map_cons, List.map_nil, List.replicate_succ, List.replicate_zero, List.flatten_cons, List.flatten_nil, Nat.zero_add, Nat.reduceAdd, chunk]; rfl) | rfl))) | (apply fill_ptr rfl (Nat.le_of_ble_eq_true rfl); (focus (first | (simp only [Hf.pv, List.take_zero, List.take_succ_cons, List.take_nil, List.drop_zero, List.drop_succ_cons, List.drop_nil, List.nil_append, List.cons_append, List.append_nil, List.map_cons, List.map_nil, List.replicate_succ, List.replicate_zero, List.flatten_cons, List.flatten_nil, Nat.zero_add, Nat.reduceAdd, chunk]; rfl) | rfl)))))); (focus rfl); (focus (first | (simp only [Hf.pv, List.take_zero, List.take_succ_cons, List.take_nil, List.drop_zero, List.drop_succ_cons, List.drop_nil, List.nil_append, List.cons_append, List.append_nil, List.map_cons, List.map_nil, List.replicate_succ, List.replicate_zero, List.flatten_cons, List.flatten_nil, Nat.zero_add, Nat.reduceAdd, chunk]; rfl) | rfl)))
        )
      have hla : ((([] : List Hf)).map Hf.pv).length = (([] : List Hf)).length := by simp
      have hlb : ((b1).map Hf.pv).length = (b1).length := by simp
      have hfin := fin (.inl rfl)
      cases tk with
      | none =>
        have ho := htk0 rfl
        subst ho
        repeat' (first
          | refine q_append_new asSl_out0 rfl (by intro e he; cases he) (rows4 _) (by simp only [List.map_nil, List.length_nil, List.length_append, List.length_map, List.length_cons] at *; omega) (by simp only [List.map_nil, List.length_nil, List.length_append, List.length_map, List.length_cons] at *; omega) (fun k9 hk9 => ?_)
          | refine q_append_vec rfl rfl (rows4a _ _) (rows4 _) (by simp only [List.map_nil, List.length_nil, List.length_append, List.length_map, List.length_cons] at *; omega) (by simp only [List.map_nil, List.length_nil, List.length_append, List.length_map, List.length_cons] at *; omega) (by simp only [List.length_append]; exact get_same) ?_
          | refine q_seq ?_
          | (refine q_reg fun n' hn' => ?_; simp only [List.length_cons, List.length_nil, Nat.zero_add, Nat.reduceAdd] at hn')
          | refine q_mov_p rfl ?_
          | refine q_on rfl ?_
          | refine q_off rfl rfl ?_
          | refine q_off_tup rfl ?_
          | refine q_mov_agg rfl ?_
          | refine q_gtr rfl rfl (fun h => ?_) (fun h => ?_)
          | refine q_pick_t rfl ?_
          | refine q_pick_f rfl ?_
          | refine q_nil_drawn trivial ?_
          | refine q_nil_drawn (sep1 rfl rfl (by omega) trivial) ?_
          | refine q_nil_drawn (sep1 rfl rfl (by omega) (sep1 rfl rfl (by omega) trivial)) ?_
          | refine q_nil ?_
          | refine q_normal ?_
          | refine q_cond_t rfl ?_
          | refine q_cond_f rfl ?_
          | refine q_block ?_
          | refine q_exit ?_
          | refine q_ret ?_
          | refine q_skip ?_
          | refine q_seq_exit ?_
          | refine q_loop_exit ?_
          | refine q_loop_ret ?_
          | refine q_seq_ret ?_
          | refine q_block_normal ?_
          | refine q_block_ret ?_
          | refine q_block_hit ?_
          | refine q_block_miss rfl ?_
          | refine q_mov_ptr rfl ?_
          | refine q_mov_ref rfl ?_
          | refine q_mov_sl rfl ?_
          | refine q_mov_fn rfl ?_
          | refine q_loadA_ref rfl (Nat.le_of_ble_eq_true rfl) (by first | (simp only [Hf.pv, List.take_zero, List.take_succ_cons, List.take_nil, List.drop_zero, List.drop_succ_cons, List.drop_nil, List.nil_append, List.cons_append, List.append_nil, List.map_cons, List.map_nil, List.replicate_succ, List.replicate_zero, List.flatten_cons, List.flatten_nil, Nat.zero_add, Nat.reduceAdd, chunk]; rfl) | rfl) ?_
          | refine q_loadA rfl (by repeat (first | exact get_same | refine get_other (by omega) ?_)) (Nat.le_of_ble_eq_true rfl) (by first | (simp only [Hf.pv, List.take_zero, List.take_succ_cons, List.take_nil, List.drop_zero, List.drop_succ_cons, List.drop_nil, List.nil_append, List.cons_append, List.append_nil, List.map_cons, List.map_nil, List.replicate_succ, List.replicate_zero, List.flatten_cons, List.flatten_nil, Nat.zero_add, Nat.reduceAdd, chunk]; rfl) | rfl) ?_
          | refine q_lenS_map rfl ?_
          | refine q_lenS rfl ?_
          | refine q_nil_drawn trivial ?_
          | (refine q_drawn fun n' hn' => ?_; simp only [List.length_cons, List.length_nil, Nat.zero_add, Nat.reduceAdd] at hn')
          | refine q_iadrS_nat rfl rfl (get_map (by omega)) rfl ?_
          | refine q_mov_out rfl ?_
          | refine q_mov_tup rfl ?_
          | (apply q_bslice; (focus (repeat' (first | exact fill_nil | (apply fill_p rfl (Nat.le_of_ble_eq_true rfl); (focus (first | (simp only [Hf.pv, List.take_zero, List.take_succ_cons, List.take_nil, List.drop_zero, List.drop_succ_cons, List.drop_nil, List.nil_append, List.cons_append, List.append_nil, List.map_cons, List.map_nil, List.replicate_succ, List.replicate_zero, List.flatten_cons, List.flatten_nil, Nat.zero_add, Nat.reduceAdd, chunk]; rfl) | rfl))) | (apply fill_agg; (focus rfl); (focus rfl); (focus exact Nat.le_of_ble_eq_true rfl); (focus (first | (simp only [Hf.pv, List.take_zero, List.take_succ_cons, List.take_nil, List.drop_zero, List.drop_succ_cons, List.drop_nil, List.nil_append, List.cons_append, List.append_nil, List.map_cons, List.map_nil, List.replicate_succ, List.replicate_zero, List.flatten_cons, List.flatten_nil, Nat.zero_add, Nat.reduceAdd, chunk]; rfl) | rfl))) | (apply fill_sl rfl (Nat.le_of_ble_eq_true rfl); (focus (first | (simp only [Hf.pv, List.take_zero, List.take_succ_cons, List.take_nil, List.drop_zero, List.drop_succ_cons, List.drop_nil, List.nil_append, List.cons_append, List.append_nil, List.map_cons, List.map_nil, List.replicate_succ, List.replicate_zero, List.flatten_cons, List.flatten_nil, Nat.zero_add, Nat.reduceAdd, chunk]; rfl) | rfl))) | (apply fill_fn rfl (Nat.le_of_ble_eq_true rfl); (focus (first | (simp only [Hf.pv, List.take_zero, List.take_succ_cons, List.take_nil, List.drop_zero, List.drop_succ_cons, List.drop_nil, List.nil_append, List.cons_append, List.append_nil, List.map_cons, List.map_nil, List.replicate_succ, List.replicate_zero, List.flatten_cons, List.flatten_nil, Nat.zero_add, Nat.reduceAdd, chunk]; rfl) | rfl))) | (apply fill_ptr rfl (Nat.le_of_ble_eq_true rfl); (focus (first | (simp only [Hf.pv, List.take_zero, List.take_succ_cons, List.take_nil, List.drop_zero, List.drop_succ_cons, List.drop_nil, List.nil_append, List.cons_append, List.append_nil, List.map_cons, List.map_nil, List.replicate_succ, List.replicate_zero, List.flatten_cons, List.flatten_nil, Nat.zero_add, Nat.reduceAdd, chunk]; rfl) | rfl)))))); (focus rfl); (focus (first | (simp only [Hf.pv, List.take_zero, List.take_succ_cons, List.take_nil, List.drop_zero, List.drop_succ_cons, List.drop_nil, List.nil_append, List.cons_append, List.append_nil, List.map_cons, List.map_nil, List.replicate_succ, List.replicate_zero, List.flatten_cons, List.flatten_nil, Nat.zero_add, Nat.reduceAdd, chunk]; rfl) | rfl)))
          )
        refine q_end_ret hwf (res_cons (res_tmp rfl) res_nil) ?_ (by first | trivial | (simp only [keysP, and_true]; omega) | (repeat' (first | exact trivial | refine ⟨by omega, ?_⟩ | exact keys_vecB (fun k hk => by have := htk k hk; omega) trivial))) (by omega)
        rw [hfin]
        refine wkV_sl ?_ ?_
        · simp
        · simp
      | some k0 =>
        have hk0 := htk k0 rfl
        repeat' (first
          | refine q_append_vec (k := k0) asSl_out1 rfl (rows4 _) (rows4 _) (by simp only [List.map_nil, List.length_nil, List.length_append, List.length_map, List.length_cons] at *; omega) (by simp only [List.map_nil, List.length_nil, List.length_append, List.length_map, List.length_cons] at *; omega) (get_vecB_self _ rfl) ?_
          | refine q_append_vec (k := k0) rfl rfl (rows4a _ _) (rows4 _) (by simp only [List.map_nil, List.length_nil, List.length_append, List.length_map, List.length_cons] at *; omega) (by simp only [List.map_nil, List.length_nil, List.length_append, List.length_map, List.length_cons] at *; omega) (by simp only [List.length_append]; exact get_same) ?_
          | refine q_seq ?_
          | (refine q_reg fun n' hn' => ?_; simp only [List.length_cons, List.length_nil, Nat.zero_add, Nat.reduceAdd] at hn')
          | refine q_mov_p rfl ?_
          | refine q_on rfl ?_
          | refine q_off rfl rfl ?_
          | refine q_off_tup rfl ?_
          | refine q_mov_agg rfl ?_
          | refine q_gtr rfl rfl (fun h => ?_) (fun h => ?_)
          | refine q_pick_t rfl ?_
          | refine q_pick_f rfl ?_
          | refine q_nil_drawn trivial ?_
          | refine q_nil_drawn (sep1 rfl rfl (by omega) trivial) ?_
          | refine q_nil_drawn (sep1 rfl rfl (by omega) (sep1 rfl rfl (by omega) trivial)) ?_
          | refine q_nil ?_
          | refine q_normal ?_
          | refine q_cond_t rfl ?_
          | refine q_cond_f rfl ?_
          | refine q_block ?_
          | refine q_exit ?_
          | refine q_ret ?_
          | refine q_skip ?_
          | refine q_seq_exit ?_
          | refine q_loop_exit ?_
          | refine q_loop_ret ?_
          | refine q_seq_ret ?_
          | refine q_block_normal ?_
          | refine q_block_ret ?_
          | refine q_block_hit ?_
          | refine q_block_miss rfl ?_
          | refine q_mov_ptr rfl ?_
          | refine q_mov_ref rfl ?_
          | refine q_mov_sl rfl ?_
          | refine q_mov_fn rfl ?_
          | refine q_loadA_ref rfl (Nat.le_of_ble_eq_true rfl) (by first | (simp only [Hf.pv, List.take_zero, List.take_succ_cons, List.take_nil, List.drop_zero, List.drop_succ_cons, List.drop_nil, List.nil_append, List.cons_append, List.append_nil, List.map_cons, List.map_nil, List.replicate_succ, List.replicate_zero, List.flatten_cons, List.flatten_nil, Nat.zero_add, Nat.reduceAdd, chunk]; rfl) | rfl) ?_
          | refine q_loadA rfl (by repeat (first | exact get_same | refine get_other (by omega) ?_)) (Nat.le_of_ble_eq_true rfl) (by first | (simp only [Hf.pv, List.take_zero, List.take_succ_cons, List.take_nil, List.drop_zero, List.drop_succ_cons, List.drop_nil, List.nil_append, List.cons_append, List.append_nil, List.map_cons, List.map_nil, List.replicate_succ, List.replicate_zero, List.flatten_cons, List.flatten_nil, Nat.zero_add, Nat.reduceAdd, chunk]; rfl) | rfl) ?_
          | refine q_lenS_map rfl ?_
          | refine q_lenS rfl ?_
          | refine q_nil_drawn trivial ?_
          | (refine q_drawn fun n' hn' => ?_; simp only [List.length_cons, List.length_nil, Nat.zero_add, Nat.reduceAdd] at hn')
          | refine q_iadrS_nat rfl rfl (get_map (by omega)) rfl ?_
          | refine q_mov_out rfl ?_
          | refine q_mov_tup rfl ?_
          | (apply q_bslice; (focus (repeat' (first | exact fill_nil | (apply fill_p rfl (Nat.le_of_ble_eq_true rfl); (focus (first | (simp only [Hf.pv, List.take_zero, List.take_succ_cons, List.take_nil, List.drop_zero, List.drop_succ_cons, List.drop_nil, List.nil_append, List.cons_append, List.append_nil, List.map_cons, List.map_nil, List.replicate_succ, List.replicate_zero, List.flatten_cons, List.flatten_nil, Nat.zero_add, Nat.reduceAdd, chunk]; rfl) | rfl))) | (apply fill_agg; (focus rfl); (focus rfl); (focus exact Nat.le_of_ble_eq_true rfl); (focus (first | (simp only [Hf.pv, List.take_zero, List.take_succ_cons, List.take_nil, List.drop_zero, List.drop_succ_cons, List.drop_nil, List.nil_append, List.cons_append, List.append_nil, List.map_cons, List.map_nil, List.replicate_succ, List.replicate_zero, List.flatten_cons, List.flatten_nil, Nat.zero_add, Nat.reduceAdd, chunk]; rfl) | rfl))) | (apply fill_sl rfl (Nat.le_of_ble_eq_true rfl); (focus (first | (simp only [Hf.pv, List.take_zero, List.take_succ_cons, List.take_nil, List.drop_zero, List.drop_succ_cons, List.drop_nil, List.nil_append, List.cons_append, List.append_nil, List.map_cons, List.map_nil, List.replicate_succ, List.replicate_zero, List.flatten_cons, List.flatten_nil, Nat.zero_add, Nat.reduceAdd, chunk]; rfl) | rfl))) | (apply fill_fn rfl (Nat.le_of_ble_eq_true rfl); (focus (first | (simp only [Hf.pv, List.take_zero, List.take_succ_cons, List.take_nil, List.drop_zero, List.drop_succ_cons, List.drop_nil, List.nil_append, List.cons_append, List.append_nil, List.map_cons, List.map_nil, List.replicate_succ, List.replicate_zero, List.flatten_cons, List.flatten_nil, Nat.zero_add, Nat.reduceAdd, chunk]; rfl) | rfl))) | (apply fill_ptr rfl (Nat.le_of_ble_eq_true rfl); (focus (first | (simp only [Hf.pv, List.take_zero, List.take_succ_cons, List.take_nil, List.drop_zero, List.drop_succ_cons, List.drop_nil, List.nil_append, List.cons_append, List.append_nil, List.map_cons, List.map_nil, List.replicate_succ, List.replicate_zero, List.flatten_cons, List.flatten_nil, Nat.zero_add, Nat.reduceAdd, chunk]; rfl) | rfl)))))); (focus rfl); (focus (first | (simp only [Hf.pv, List.take_zero, List.take_succ_cons, List.take_nil, List.drop_zero, List.drop_succ_cons, List.drop_nil, List.nil_append, List.cons_append, List.append_nil, List.map_cons, List.map_nil, List.replicate_succ, List.replicate_zero, List.flatten_cons, List.flatten_nil, Nat.zero_add, Nat.reduceAdd, chunk]; rfl) | rfl)))
          )
        refine q_end_ret hwf (res_cons (res_tmp rfl) res_nil) ?_ (by first | trivial | (simp only [keysP, and_true]; omega) | (repeat' (first | exact trivial | refine ⟨by omega, ?_⟩ | exact keys_vecB (fun k hk => by have := htk k hk; omega) trivial))) (by omega)
        rw [hfin]
        refine wkV_sl ?_ ?_
        · have := hk0.2.2; cases out <;> simp_all
        · simp
    | cons x a1 =>
      cases b1 with
      | nil =>
        repeat' (first
          | refine q_gtr_t rfl rfl (by simp only [List.length_cons]; omega) ?_
          | refine q_gtr_f rfl rfl (by simp) ?_
          | refine q_seq ?_
          | (refine q_reg fun n' hn' => ?_; simp only [List.length_cons, List.length_nil, Nat.zero_add, Nat.reduceAdd] at hn')
          | refine q_mov_p rfl ?_
          | refine q_on rfl ?_
          | refine q_off rfl rfl ?_
          | refine q_off_tup rfl ?_
          | refine q_mov_agg rfl ?_
          | refine q_gtr rfl rfl (fun h => ?_) (fun h => ?_)
          | refine q_pick_t rfl ?_
          | refine q_pick_f rfl ?_
          | refine q_nil_drawn trivial ?_
          | refine q_nil_drawn (sep1 rfl rfl (by omega) trivial) ?_
          | refine q_nil_drawn (sep1 rfl rfl (by omega) (sep1 rfl rfl (by omega) trivial)) ?_
          | refine q_nil ?_
          | refine q_normal ?_
          | refine q_cond_t rfl ?_
          | refine q_cond_f rfl ?_
          | refine q_block ?_
          | refine q_exit ?_
          | refine q_ret ?_
          | refine q_skip ?_
          | refine q_seq_exit ?_
          | refine q_loop_exit ?_
          | refine q_loop_ret ?_
          | refine q_seq_ret ?_
          | refine q_block_normal ?_
          | refine q_block_ret ?_
          | refine q_block_hit ?_
          | refine q_block_miss rfl ?_
          | refine q_mov_ptr rfl ?_
          | refine q_mov_ref rfl ?_
          | refine q_mov_sl rfl ?_
          | refine q_mov_fn rfl ?_
          | refine q_loadA_ref rfl (Nat.le_of_ble_eq_true rfl) (by first | (simp only [Hf.pv, List.take_zero, List.take_succ_cons, List.take_nil, List.drop_zero, List.drop_succ_cons, List.drop_nil, List.nil_append, List.cons_append, List.append_nil, List.map_cons, List.map_nil, List.replicate_succ, List.replicate_zero, List.flatten_cons, List.flatten_nil, Nat.zero_add, Nat.reduceAdd, chunk]; rfl) | rfl) ?_
          | refine q_loadA rfl (by repeat (first | exact get_same | refine get_other (by omega) ?_)) (Nat.le_of_ble_eq_true rfl) (by first | (simp only [Hf.pv, List.take_zero, List.take_succ_cons, List.take_nil, List.drop_zero, List.drop_succ_cons, List.drop_nil, List.nil_append, List.cons_append, List.append_nil, List.map_cons, List.map_nil, List.replicate_succ, List.replicate_zero, List.flatten_cons, List.flatten_nil, Nat.zero_add, Nat.reduceAdd, chunk]; rfl) | rfl) ?_
          | refine q_lenS_map rfl ?_
          | refine q_lenS rfl ?_
          | refine q_nil_drawn trivial ?_
          | (refine q_drawn fun n' hn' => ?_; simp only [List.length_cons, List.length_nil, Nat.zero_add, Nat.reduceAdd] at hn')
          | refine q_iadrS_nat rfl rfl (get_map (by omega)) rfl ?_
          | refine q_mov_out rfl ?_
          | refine q_mov_tup rfl ?_
          | (apply q_bslice; (focus (repeat' (first | exact fill_nil | (apply fill_p rfl (Nat.le_of_ble_eq_true rfl); (focus (first | (simp only [Hf.pv, List.take_zero, List.take_succ_cons, List.take_nil, List.drop_zero, List.drop_succ_cons, List.drop_nil, List.nil_append, List.cons_append, List.append_nil, List.map_cons, List.map_nil, List.replicate_succ, List.replicate_zero, List.flatten_cons, List.flatten_nil, Nat.zero_add, Nat.reduceAdd, chunk]; rfl) | rfl))) | (apply fill_agg; (focus rfl); (focus rfl); (focus exact Nat.le_of_ble_eq_true rfl); (focus (first | (simp only [Hf.pv, List.take_zero, List.take_succ_cons, List.take_nil, List.drop_zero, List.drop_succ_cons, List.drop_nil, List.nil_append, List.cons_append, List.append_nil, List.map_cons, List.map_nil, List.replicate_succ, List.replicate_zero, List.flatten_cons, List.flatten_nil, Nat.zero_add, Nat.reduceAdd, chunk]; rfl) | rfl))) | (apply fill_sl rfl (Nat.le_of_ble_eq_true rfl); (focus (first | (simp only [Hf.pv, List.take_zero, List.take_succ_cons, List.take_nil, List.drop_zero, List.drop_succ_cons, List.drop_nil, List.nil_append, List.cons_append, List.append_nil, List.map_cons, List.map_nil, List.replicate_succ, List.replicate_zero, List.flatten_cons, List.flatten_nil, Nat.zero_add, Nat.reduceAdd, chunk]; rfl) | rfl))) | (apply fill_fn rfl (Nat.le_of_ble_eq_true rfl); (focus (first | (simp only [Hf.pv, List.take_zero, List.take_succ_cons, List.take_nil, List.drop_zero, List.drop_succ_cons, List.drop_nil, List.nil_append, List.cons_append, List.append_nil, List.map_cons, List.map_nil, List.replicate_succ, List.replicate_zero, List.flatten_cons, List.flatten_nil, Nat.zero_add, Nat.reduceAdd, chunk]; rfl) | rfl))) | (apply fill_ptr rfl (Nat.le_of_ble_eq_true rfl); (focus (first | (simp only [Hf.pv, List.take_zero, List.take_succ_cons, List.take_nil, List.drop_zero, List.drop_succ_cons, List.drop_nil, List.nil_append, List.cons_append, List.append_nil, List.map_cons, List.map_nil, List.replicate_succ, List.replicate_zero, List.flatten_cons, List.flatten_nil, Nat.zero_add, Nat.reduceAdd, chunk]; rfl) | rfl)))))); (focus rfl); (focus (first | (simp only [Hf.pv, List.take_zero, List.take_succ_cons, List.take_nil, List.drop_zero, List.drop_succ_cons, List.drop_nil, List.nil_append, List.cons_append, List.append_nil, List.map_cons, List.map_nil, List.replicate_succ, List.replicate_zero, List.flatten_cons, List.flatten_nil, Nat.zero_add, Nat.reduceAdd, chunk]; rfl) | rfl)))
          )
        have hla : ((x :: a1).map Hf.pv).length = (x :: a1).length := by simp
        have hlb : ((([] : List Hf)).map Hf.pv).length = (([] : List Hf)).length := by simp
        have hfin := fin (.inr rfl)
        cases tk with
        | none =>
          have ho := htk0 rfl
          subst ho
          repeat' (first
            | refine q_append_new asSl_out0 rfl (by intro e he; cases he) (rows4 _) (by simp only [List.map_nil, List.length_nil, List.length_append, List.length_map, List.length_cons] at *; omega) (by simp only [List.map_nil, List.length_nil, List.length_append, List.length_map, List.length_cons] at *; omega) (fun k9 hk9 => ?_)
            | refine q_append_vec rfl rfl (rows4a _ _) (rows4 _) (by simp only [List.map_nil, List.length_nil, List.length_append, List.length_map, List.length_cons] at *; omega) (by simp only [List.map_nil, List.length_nil, List.length_append, List.length_map, List.length_cons] at *; omega) (by simp only [List.length_append]; exact get_same) ?_
            | refine q_seq ?_
            | (refine q_reg fun n' hn' => ?_; simp only [List.length_cons, List.length_nil, Nat.zero_add, Nat.reduceAdd] at hn')
            | refine q_mov_p rfl ?_
            | refine q_on rfl ?_
            | refine q_off rfl rfl ?_
            | refine q_off_tup rfl ?_
            | refine q_mov_agg rfl ?_
            | refine q_gtr rfl rfl (fun h => ?_) (fun h => ?_)
            | refine q_pick_t rfl ?_
            | refine q_pick_f rfl ?_
            | refine q_nil_drawn trivial ?_
            | refine q_nil_drawn (sep1 rfl rfl (by omega) trivial) ?_
            | refine q_nil_drawn (sep1 rfl rfl (by omega) (sep1 rfl rfl (by omega) trivial)) ?_
            | refine q_nil ?_
            | refine q_normal ?_
            | refine q_cond_t rfl ?_
            | refine q_cond_f rfl ?_
            | refine q_block ?_
            | refine q_exit ?_
            | refine q_ret ?_
            | refine q_skip ?_
            | refine q_seq_exit ?_
            | refine q_loop_exit ?_
            | refine q_loop_ret ?_
            | refine q_seq_ret ?_
            | refine q_block_normal ?_
            | refine q_block_ret ?_
            | refine q_block_hit ?_
            | refine q_block_miss rfl ?_
            | refine q_mov_ptr rfl ?_
            | refine q_mov_ref rfl ?_
            | refine q_mov_sl rfl ?_
            | refine q_mov_fn rfl ?_
            | refine q_loadA_ref rfl (Nat.le_of_ble_eq_true rfl) (by first | (simp only [Hf.pv, List.take_zero, List.take_succ_cons, List.take_nil, List.drop_zero, List.drop_succ_cons, List.drop_nil, List.nil_append, List.cons_append, List.append_nil, List.map_cons, List.map_nil, List.replicate_succ, List.replicate_zero, List.flatten_cons, List.flatten_nil, Nat.zero_add, Nat.reduceAdd, chunk]; rfl) | rfl) ?_
            | refine q_loadA rfl (by repeat (first | exact get_same | refine get_other (by omega) ?_)) (Nat.le_of_ble_eq_true rfl) (by first | (simp only [Hf.pv, List.take_zero, List.take_succ_cons, List.take_nil, List.drop_zero, List.drop_succ_cons, List.drop_nil, List.nil_append, List.cons_append, List.append_nil, List.map_cons, List.map_nil, List.replicate_succ, List.replicate_zero, List.flatten_cons, List.flatten_nil, Nat.zero_add, Nat.reduceAdd, chunk]; rfl) | rfl) ?_
            | refine q_lenS_map rfl ?_
            | refine q_lenS rfl ?_
            | refine q_nil_drawn trivial ?_
            | (refine q_drawn fun n' hn' => ?_; simp only [List.length_cons, List.length_nil, Nat.zero_add, Nat.reduceAdd] at hn')
            | refine q_iadrS_nat rfl rfl (get_map (by omega)) rfl ?_
            | refine q_mov_out rfl ?_
            | refine q_mov_tup rfl ?_
            | (apply q_bslice; (focus (repeat' (first | exact fill_nil | (apply fill_p rfl (Nat.le_of_ble_eq_true rfl); (focus (first | (simp only [Hf.pv, List.take_zero, List.take_succ_cons, List.take_nil, List.drop_zero, List.drop_succ_cons, List.drop_nil, List.nil_append, List.cons_append, List.append_nil, List.map_cons, List.map_nil, List.replicate_succ, List.replicate_zero, List.flatten_cons, List.flatten_nil, Nat.zero_add, Nat.reduceAdd, chunk]; rfl) | rfl))) | (apply fill_agg; (focus rfl); (focus rfl); (focus exact Nat.le_of_ble_eq_true rfl); (focus (first | (simp only [Hf.pv, List.take_zero, List.take_succ_cons, List.take_nil, List.drop_zero, List.drop_succ_cons, List.drop_nil, List.nil_append, List.cons_append, List.append_nil, List.map_cons, List.map_nil, List.replicate_succ, List.replicate_zero, List.flatten_cons, List.flatten_nil, Nat.zero_add, Nat.reduceAdd, chunk]; rfl) | rfl))) | (apply fill_sl rfl (Nat.le_of_ble_eq_true rfl); (focus (first | (simp only [Hf.pv, List.take_zero, List.take_succ_cons, List.take_nil, List.drop_zero, List.drop_succ_cons, List.drop_nil, List.nil_append, List.cons_append, List.append_nil, List.map_cons, List.map_nil, List.replicate_succ, List.replicate_zero, List.flatten_cons, List.flatten_nil, Nat.zero_add, Nat.reduceAdd, chunk]; rfl) | rfl))) | (apply fill_fn rfl (Nat.le_of_ble_eq_true rfl); (focus (first | (simp only [Hf.pv, List.take_zero, List.take_succ_cons, List.take_nil, List.drop_zero, List.drop_succ_cons, List.drop_nil, List.nil_append, List.cons_append, List.append_nil, List.map_cons, List.map_nil, List.replicate_succ, List.replicate_zero, List.flatten_cons, List.flatten_nil, Nat.zero_add, Nat.reduceAdd, chunk]; rfl) | rfl))) | (apply fill_ptr rfl (Nat.le_of_ble_eq_true rfl); (focus (first | (simp only [Hf.pv, List.take_zero, List.take_succ_cons, List.take_nil, List.drop_zero, List.drop_succ_cons, List.drop_nil, List.nil_append, List.cons_append, List.append_nil, List.map_cons, List.map_nil, List.replicate_succ, List.replicate_zero, List.flatten_cons, List.flatten_nil, Nat.zero_add, Nat.reduceAdd, chunk]; rfl) | rfl)))))); (focus rfl); (focus (first | (simp only [Hf.pv, List.take_zero, List.take_succ_cons, List.take_nil, List.drop_zero, List.drop_succ_cons, List.drop_nil, List.nil_append, List.cons_append, List.append_nil, List.map_cons, List.map_nil, List.replicate_succ, List.replicate_zero, List.flatten_cons, List.flatten_nil, Nat.zero_add, Nat.reduceAdd, chunk]; rfl) | rfl)))
            )
          refine q_end_ret hwf (res_cons (res_tmp rfl) res_nil) ?_ (by first | trivial | (simp only [keysP, and_true]; omega) | (repeat' (first | exact trivial | refine ⟨by omega, ?_⟩ | exact keys_vecB (fun k hk => by have := htk k hk; omega) trivial))) (by omega)
          rw [hfin]
          refine wkV_sl ?_ ?_
          · simp
          · simp
        | some k0 =>
          have hk0 := htk k0 rfl
          repeat' (first
            | refine q_append_vec (k := k0) asSl_out1 rfl (rows4 _) (rows4 _) (by simp only [List.map_nil, List.length_nil, List.length_append, List.length_map, List.length_cons] at *; omega) (by simp only [List.map_nil, List.length_nil, List.length_append, List.length_map, List.length_cons] at *; omega) (get_vecB_self _ rfl) ?_
            | refine q_append_vec (k := k0) rfl rfl (rows4a _ _) (rows4 _) (by simp only [List.map_nil, List.length_nil, List.length_append, List.length_map, List.length_cons] at *; omega) (by simp only [List.map_nil, List.length_nil, List.length_append, List.length_map, List.length_cons] at *; omega) (by simp only [List.length_append]; exact get_same) ?_
            | refine q_seq ?_
            | (refine q_reg fun n' hn' => ?_; simp only [List.length_cons, List.length_nil, Nat.zero_add, Nat.reduceAdd] at hn')
            | refine q_mov_p rfl ?_
            | refine q_on rfl ?_
            | refine q_off rfl rfl ?_
            | refine q_off_tup rfl ?_
            | refine q_mov_agg rfl ?_
            | refine q_gtr rfl rfl (fun h => ?_) (fun h => ?_)
            | refine q_pick_t rfl ?_
            | refine q_pick_f rfl ?_
            | refine q_nil_drawn trivial ?_
            | refine q_nil_drawn (sep1 rfl rfl (by omega) trivial) ?_
            | refine q_nil_drawn (sep1 rfl rfl (by omega) (sep1 rfl rfl (by omega) trivial)) ?_
            | refine q_nil ?_
            | refine q_normal ?_
            | refine q_cond_t rfl ?_
            | refine q_cond_f rfl ?_
            | refine q_block ?_
            | refine q_exit ?_
            | refine q_ret ?_
            | refine q_skip ?_
            | refine q_seq_exit ?_
            | refine q_loop_exit ?_
            | refine q_loop_ret ?_
            | refine q_seq_ret ?_
            | refine q_block_normal ?_
            | refine q_block_ret ?_
            | refine q_block_hit ?_
            | refine q_block_miss rfl ?_
            | refine q_mov_ptr rfl ?_
            | refine q_mov_ref rfl ?_
            | refine q_mov_sl rfl ?_
            | refine q_mov_fn rfl ?_
            | refine q_loadA_ref rfl (Nat.le_of_ble_eq_true rfl) (by first | (simp only [Hf.pv, List.take_zero, List.take_succ_cons, List.take_nil, List.drop_zero, List.drop_succ_cons, List.drop_nil, List.nil_append, List.cons_append, List.append_nil, List.map_cons, List.map_nil, List.replicate_succ, List.replicate_zero, List.flatten_cons, List.flatten_nil, Nat.zero_add, Nat.reduceAdd, chunk]; rfl) | rfl) ?_
            | refine q_loadA rfl (by repeat (first | exact get_same | refine get_other (by omega) ?_)) (Nat.le_of_ble_eq_true rfl) (by first | (simp only [Hf.pv, List.take_zero, List.take_succ_cons, List.take_nil, List.drop_zero, List.drop_succ_cons, List.drop_nil, List.nil_append, List.cons_append, List.append_nil, List.map_cons, List.map_nil, List.replicate_succ, List.replicate_zero, List.flatten_cons, List.flatten_nil, Nat.zero_add, Nat.reduceAdd, chunk]; rfl) | rfl) ?_
            | refine q_lenS_map rfl ?_
            | refine q_lenS rfl ?_
            | refine q_nil_drawn trivial ?_
            | (refine q_drawn fun n' hn' => ?_; simp only [List.length_cons, List.length_nil, Nat.zero_add, Nat.reduceAdd] at hn')
            | refine q_iadrS_nat rfl rfl (get_map (by omega)) rfl ?_
            | refine q_mov_out rfl ?_
            | refine q_mov_tup rfl ?_
            | (apply q_bslice; (focus (repeat' (first | exact fill_nil | (apply fill_p rfl (Nat.le_of_ble_eq_true rfl); (focus (first | (simp only [Hf.pv, List.take_zero, List.take_succ_cons, List.take_nil, List.drop_zero, List.drop_succ_cons, List.drop_nil, List.nil_append, List.cons_append, List.append_nil, List.map_cons, List.map_nil, List.replicate_succ, List.replicate_zero, List.flatten_cons, List.flatten_nil, Nat.zero_add, Nat.reduceAdd, chunk]; rfl) | rfl))) | (apply fill_agg; (focus rfl); (focus rfl); (focus exact Nat.le_of_ble_eq_true rfl); (focus (first | (simp only [Hf.pv, List.take_zero, List.take_succ_cons, List.take_nil, List.drop_zero, List.drop_succ_cons, List.drop_nil, List.nil_append, List.cons_append, List.append_nil, List.map_cons, List.map_nil, List.replicate_succ, List.replicate_zero, List.flatten_cons, List.flatten_nil, Nat.zero_add, Nat.reduceAdd, chunk]; rfl) | rfl))) | (apply fill_sl rfl (Nat.le_of_ble_eq_true rfl); (focus (first | (simp only [Hf.pv, List.take_zero, List.take_succ_cons, List.take_nil, List.drop_zero, List.drop_succ_cons, List.drop_nil, List.nil_append, List.cons_append, List.append_nil, List.map_cons, List.map_nil, List.replicate_succ, List.replicate_zero, List.flatten_cons, List.flatten_nil, Nat.zero_add, Nat.reduceAdd, chunk]; rfl) | rfl))) | (apply fill_fn rfl (Nat.le_of_ble_eq_true rfl); (focus (first | (simp only [Hf.pv, List.take_zero, List.take_succ_cons, List.take_nil, List.drop_zero, List.drop_succ_cons, List.drop_nil, List.nil_append, List.cons_append, List.append_nil, List.map_cons, List.map_nil, List.replicate_succ, List.replicate_zero, List.flatten_cons, List.flatten_nil, Nat.zero_add, Nat.reduceAdd, chunk]; rfl) | rfl))) | (apply fill_ptr rfl (Nat.le_of_ble_eq_true rfl); (focus (first | (simp only [Hf.pv, List.take_zero, List.take_succ_cons, List.take_nil, List.drop_zero, List.drop_succ_cons, List.drop_nil, List.nil_append, List.cons_append, List.append_nil, List.map_cons, List.map_nil, List.replicate_succ, List.replicate_zero, List.flatten_cons, List.flatten_nil, Nat.zero_add, Nat.reduceAdd, chunk]; rfl) | rfl)))))); (focus rfl); (focus (first | (simp only [Hf.pv, List.take_zero, List.take_succ_cons, List.take_nil, List.drop_zero, List.drop_succ_cons, List.drop_nil, List.nil_append, List.cons_append, List.append_nil, List.map_cons, List.map_nil, List.replicate_succ, List.replicate_zero, List.flatten_cons, List.flatten_nil, Nat.zero_add, Nat.reduceAdd, chunk]; rfl) | rfl)))
            )
          refine q_end_ret hwf (res_cons (res_tmp rfl) res_nil) ?_ (by first | trivial | (simp only [keysP, and_true]; omega) | (repeat' (first | exact trivial | refine ⟨by omega, ?_⟩ | exact keys_vecB (fun k hk => by have := htk k hk; omega) trivial))) (by omega)
          rw [hfin]
          refine wkV_sl ?_ ?_
          · have := hk0.2.2; cases out <;> simp_all
          · simp
      | cons y b1 =>
        have hla : (List.map Hf.pv (x :: a1)).length = a1.length + 1 := by simp
        have hlb : (List.map Hf.pv (y :: b1)).length = b1.length + 1 := by simp
        repeat' (first
          | refine q_gtr_t rfl rfl (by simp only [List.length_cons]; omega) ?_
          | refine q_iadrS rfl rfl (by decide) rfl rfl ?_
          | refine q_loadA_row rfl rfl ?_
          | refine q_callv_b rfl hc (fun S => hf y x S) (fun hb => ?_) (fun hb => ?_)
          | (refine q_append_out (tk := tk) rfl rfl (rows4 _) rfl (by omega) (by omega) (fun k hk => by have := htk k hk; (repeat (refine get_other (by omega) ?_)); exact get_vecB_self k hk) (fun k9 hk9 => ?_))
          | refine q_slice (l := 1) (h := (b1.length + 1 : Nat)) (ys := b1.map Hf.pv) rfl (rows4 _) rfl (by simp [boundA]) (by omega) (by omega) (by simp) sl1 ?_
          | refine q_slice (l := 1) (h := (a1.length + 1 : Nat)) (ys := a1.map Hf.pv) rfl (rows4 _) rfl (by simp [boundA]) (by omega) (by omega) (by simp) sl1 ?_
          | refine q_seq ?_
          | (refine q_reg fun n' hn' => ?_; simp only [List.length_cons, List.length_nil, Nat.zero_add, Nat.reduceAdd] at hn')
          | refine q_mov_p rfl ?_
          | refine q_on rfl ?_
          | refine q_off rfl rfl ?_
          | refine q_off_tup rfl ?_
          | refine q_mov_agg rfl ?_
          | refine q_gtr rfl rfl (fun h => ?_) (fun h => ?_)
          | refine q_pick_t rfl ?_
          | refine q_pick_f rfl ?_
          | refine q_nil_drawn trivial ?_
          | refine q_nil_drawn (sep1 rfl rfl (by omega) trivial) ?_
          | refine q_nil_drawn (sep1 rfl rfl (by omega) (sep1 rfl rfl (by omega) trivial)) ?_
          | refine q_nil ?_
          | refine q_normal ?_
          | refine q_cond_t rfl ?_
          | refine q_cond_f rfl ?_
          | refine q_block ?_
          | refine q_exit ?_
          | refine q_ret ?_
          | refine q_skip ?_
          | refine q_seq_exit ?_
          | refine q_loop_exit ?_
          | refine q_loop_ret ?_
          | refine q_seq_ret ?_
          | refine q_block_normal ?_
          | refine q_block_ret ?_
          | refine q_block_hit ?_
          | refine q_block_miss rfl ?_
          | refine q_mov_ptr rfl ?_
          | refine q_mov_ref rfl ?_
          | refine q_mov_sl rfl ?_
          | refine q_mov_fn rfl ?_
          | refine q_loadA_ref rfl (Nat.le_of_ble_eq_true rfl) (by first | (simp only [Hf.pv, List.take_zero, List.take_succ_cons, List.take_nil, List.drop_zero, List.drop_succ_cons, List.drop_nil, List.nil_append, List.cons_append, List.append_nil, List.map_cons, List.map_nil, List.replicate_succ, List.replicate_zero, List.flatten_cons, List.flatten_nil, Nat.zero_add, Nat.reduceAdd, chunk]; rfl) | rfl) ?_
          | refine q_loadA rfl (by repeat (first | exact get_same | refine get_other (by omega) ?_)) (Nat.le_of_ble_eq_true rfl) (by first | (simp only [Hf.pv, List.take_zero, List.take_succ_cons, List.take_nil, List.drop_zero, List.drop_succ_cons, List.drop_nil, List.nil_append, List.cons_append, List.append_nil, List.map_cons, List.map_nil, List.replicate_succ, List.replicate_zero, List.flatten_cons, List.flatten_nil, Nat.zero_add, Nat.reduceAdd, chunk]; rfl) | rfl) ?_
          | refine q_lenS_map rfl ?_
          | refine q_lenS rfl ?_
          | refine q_nil_drawn trivial ?_
          | (refine q_drawn fun n' hn' => ?_; simp only [List.length_cons, List.length_nil, Nat.zero_add, Nat.reduceAdd] at hn')
          | refine q_iadrS_nat rfl rfl (get_map (by omega)) rfl ?_
          | refine q_mov_out rfl ?_
          | refine q_mov_tup rfl ?_
          | (apply q_bslice; (focus (repeat' (first | exact fill_nil | (apply fill_p rfl (Nat.le_of_ble_eq_true rfl); (focus (first | (simp only [Hf.pv, List.take_zero, List.take_succ_cons, List.take_nil, List.drop_zero, List.drop_succ_cons, List.drop_nil, List.nil_append, List.cons_append, List.append_nil, List.map_cons, List.map_nil, List.replicate_succ, List.replicate_zero, List.flatten_cons, List.flatten_nil, Nat.zero_add, Nat.reduceAdd, chunk]; rfl) | rfl))) | (apply fill_agg; (focus rfl); (focus rfl); (focus exact Nat.le_of_ble_eq_true rfl); (focus (first | (simp only [Hf.pv, List.take_zero, List.take_succ_cons, List.take_nil, List.drop_zero, List.drop_succ_cons, List.drop_nil, List.nil_append, List.cons_append, List.append_nil, List.map_cons, List.map_nil, List.replicate_succ, List.replicate_zero, List.flatten_cons, List.flatten_nil, Nat.zero_add, Nat.reduceAdd, chunk]; rfl) | rfl))) | (apply fill_sl rfl (Nat.le_of_ble_eq_true rfl); (focus (first | (simp only [Hf.pv, List.take_zero, List.take_succ_cons, List.take_nil, List.drop_zero, List.drop_succ_cons, List.drop_nil, List.nil_append, List.cons_append, List.append_nil, List.map_cons, List.map_nil, List.replicate_succ, List.replicate_zero, List.flatten_cons, List.flatten_nil, Nat.zero_add, Nat.reduceAdd, chunk]; rfl) | rfl))) | (apply fill_fn rfl (Nat.le_of_ble_eq_true rfl); (focus (first | (simp only [Hf.pv, List.take_zero, List.take_succ_cons, List.take_nil, List.drop_zero, List.drop_succ_cons, List.drop_nil, List.nil_append, List.cons_append, List.append_nil, List.map_cons, List.map_nil, List.replicate_succ, List.replicate_zero, List.flatten_cons, List.flatten_nil, Nat.zero_add, Nat.reduceAdd, chunk]; rfl) | rfl))) | (apply fill_ptr rfl (Nat.le_of_ble_eq_true rfl); (focus (first | (simp only [Hf.pv, List.take_zero, List.take_succ_cons, List.take_nil, List.drop_zero, List.drop_succ_cons, List.drop_nil, List.nil_append, List.cons_append, List.append_nil, List.map_cons, List.map_nil, List.replicate_succ, List.replicate_zero, List.flatten_cons, List.flatten_nil, Nat.zero_add, Nat.reduceAdd, chunk]; rfl) | rfl)))))); (focus rfl); (focus (first | (simp only [Hf.pv, List.take_zero, List.take_succ_cons, List.take_nil, List.drop_zero, List.drop_succ_cons, List.drop_nil, List.nil_append, List.cons_append, List.append_nil, List.map_cons, List.map_nil, List.replicate_succ, List.replicate_zero, List.flatten_cons, List.flatten_nil, Nat.zero_add, Nat.reduceAdd, chunk]; rfl) | rfl)))
          )
        · have hout : out.map Hf.pv ++ [y.pv] = (out ++ [y]).map Hf.pv := by rw [List.map_append]; rfl
          have hlen' : ((out ++ [y]).map Hf.pv).length = (out.map Hf.pv).length + 1 := by rw [← hout]; simp
          have hk9' : k9 < n' ∧ S.n ≤ k9 := by
            rcases hk9 with ⟨_, h5⟩ | h5
            · omega
            · have := htk _ h5; omega
          refine q_loop_normal ⟨x :: a1, b1, out ++ [y], n', some k9⟩ ⟨?_, by simp only; omega, by simp only [List.length_append, List.length_cons, List.length_nil] at *; omega, by simp, ?_⟩ (by simp only [List.length_cons]; omega) (wk_mk hwf (by simp only; omega) (by simp) (by first | trivial | (simp only [keysP, and_true]; omega) | (repeat' (first | exact trivial | refine ⟨by omega, ?_⟩ | exact keys_vecB (fun k hk => by have := htk k hk; omega) trivial))) (blks_vecB (fun k hk => by cases hk; exact ⟨by rw [hlen']; exact get_same, hk9'.1⟩) trivial) (by simp only [fitsP]; repeat' (first | exact trivial | refine ⟨?_, ?_⟩ | exact .same trivial | exact wkV_out0 | exact wkV_out_eq hout (by omega) | exact wkV_ptr (by omega) | exact wkV_mapv (by omega) | exact .same (under_mono (by omega) hu.1) | exact .same (under_mono (by omega) hu.2.1) | exact .same (under_mono (by omega) hu.2.2.1) | exact wkV_int (by omega) | exact wkV_int (by simp) | exact .no _ _ _)))
          · simp only [List.append_assoc, List.singleton_append]
            rw [← hm, mergeL_cons, if_pos hb]
          · intro k hk
            cases hk
            rcases hk9 with ⟨_, h5⟩ | h5
            · exact ⟨by omega, by simp only; omega, by simp⟩
            · have := htk _ h5; exact ⟨by omega, by simp only; omega, by simp⟩
        · have hout : out.map Hf.pv ++ [x.pv] = (out ++ [x]).map Hf.pv := by rw [List.map_append]; rfl
          have hlen' : ((out ++ [x]).map Hf.pv).length = (out.map Hf.pv).length + 1 := by rw [← hout]; simp
          have hk9' : k9 < n' ∧ S.n ≤ k9 := by
            rcases hk9 with ⟨_, h5⟩ | h5
            · omega
            · have := htk _ h5; omega
          refine q_loop_normal ⟨a1, y :: b1, out ++ [x], n', some k9⟩ ⟨?_, by simp only; omega, by simp only [List.length_append, List.length_cons, List.length_nil] at *; omega, by simp, ?_⟩ (by simp only [List.length_cons]; omega) (wk_mk hwf (by simp only; omega) (by simp) (by first | trivial | (simp only [keysP, and_true]; omega) | (repeat' (first | exact trivial | refine ⟨by omega, ?_⟩ | exact keys_vecB (fun k hk => by have := htk k hk; omega) trivial))) (blks_vecB (fun k hk => by cases hk; exact ⟨by rw [hlen']; exact get_same, hk9'.1⟩) trivial) (by simp only [fitsP]; repeat' (first | exact trivial | refine ⟨?_, ?_⟩ | exact .same trivial | exact wkV_out0 | exact wkV_out_eq hout (by omega) | exact wkV_ptr (by omega) | exact wkV_mapv (by omega) | exact .same (under_mono (by omega) hu.1) | exact .same (under_mono (by omega) hu.2.1) | exact .same (under_mono (by omega) hu.2.2.1) | exact wkV_int (by omega) | exact wkV_int (by simp) | exact .no _ _ _)))
          · simp only [List.append_assoc, List.singleton_append]
            rw [← hm, mergeL_cons, if_neg (by simp [hb])]
          · intro k hk
            cases hk
            rcases hk9 with ⟨_, h5⟩ | h5
            · exact ⟨by omega, by simp only; omega, by simp⟩
            · have := htk _ h5; exact ⟨by omega, by simp only; omega, by simp⟩

/-! ### Sorting -/

def sortF (ls : Hf → Hf → Bool) : Nat → List Hf → List Hf
  | 0, l => l
  | n + 1, l => if l.length < 2 then l else mergeL ls (sortF ls n (l.take (l.length / 2))) (sortF ls n (l.drop (l.length / 2)))
theorem sortF_len {ls : Hf → Hf → Bool} : ∀ (n : Nat) (l : List Hf), (sortF ls n l).length = l.length
  | 0, l => rfl
  | n + 1, l => by
    simp only [sortF]
    split
    · rfl
    · rw [mergeL_len, sortF_len n, sortF_len n, List.length_take, List.length_drop]; omega
theorem sortF_low {ls : Hf → Hf → Bool} {n : Nat} {l : List Hf} (h : l.length < 2) : sortF ls n l = l := by
  cases n with
  | zero => rfl
  | succ n => simp only [sortF]; rw [if_pos h]

theorem slT {l : List Hf} {k : Nat} : ((l.map Hf.pv).take ((k : Nat) : Int).toNat).drop (0 : Int).toNat = (l.take k).map Hf.pv := by
  rw [Int.toNat_natCast]; simp [List.map_take]
theorem slD {l : List Hf} {k : Nat} : ((l.map Hf.pv).take ((l.length : Nat) : Int).toNat).drop ((k : Nat) : Int).toNat = (l.drop k).map Hf.pv := by
  rw [Int.toNat_natCast, Int.toNat_natCast]; simp [List.take_of_length_le, List.map_drop]
theorem quo2' {k : Nat} (h : k < 4611686018427387904) : IntKind.i64.wrap ((k : Int).tdiv 2) = ((k / 2 : Nat) : Int) := quo2 h

theorem specP21 (ls : Hf → Hf → Bool) (f : Nat) (caps : List AV) (hc : callable Try.prog f = true) (hf : ∀ x y S, ASpec Try.prog f ([.agg (x.pv.map .p), .agg (y.pv.map .p)] ++ caps) S (vb (ls x y)) S) :
    ∀ (N : Nat) (S : St) (nl : Bool) (l : List Hf), l.length ≤ N → l.length ≤ 1048576 → (nl = true → l = []) → ASpec Try.prog 21 [.p (.sl nl (l.map Hf.pv)), .fn f caps] S (.p (.sl (decide (l.length < 2) && nl) ((sortF ls N l).map Hf.pv))) S := by
  intro N
  induction N with
  | zero =>
    intro S nl l hN hl hnl
    refine q_fun hmix cP21 rfl (Nat.le_of_ble_eq_true rfl) fun hwf hu => ?_
    repeat' (first
      | refine q_call (fun S => specP30 S nl l hl hnl) ?_
      | (exfalso; omega)
      | refine q_seq ?_
      | (refine q_reg fun n' hn' => ?_; simp only [List.length_cons, List.length_nil, Nat.zero_add, Nat.reduceAdd] at hn')
      | refine q_mov_p rfl ?_
      | refine q_on rfl ?_
      | refine q_off rfl rfl ?_
      | refine q_off_tup rfl ?_
      | refine q_mov_agg rfl ?_
      | refine q_lss rfl rfl (fun h => ?_) (fun h => ?_)
      | refine q_nil_drawn trivial ?_
      | refine q_nil_drawn (sep1 rfl rfl (by omega) trivial) ?_
      | refine q_nil_drawn (sep1 rfl rfl (by omega) (sep1 rfl rfl (by omega) trivial)) ?_
      | refine q_nil ?_
      | refine q_normal ?_
      | refine q_cond_t rfl ?_
      | refine q_cond_f rfl ?_
      | refine q_ret ?_
      | refine q_skip ?_
      | refine q_seq_ret ?_
      | refine q_mov_ptr rfl ?_
      | refine q_mov_ref rfl ?_
      | refine q_mov_sl rfl ?_
      | refine q_mov_fn rfl ?_
      | refine q_lenS_map rfl ?_
      | refine q_lenS rfl ?_
      | refine q_nil_drawn trivial ?_
      | (refine q_drawn fun n' hn' => ?_; simp only [List.length_cons, List.length_nil, Nat.zero_add, Nat.reduceAdd] at hn')
      | refine q_mov_tup rfl ?_
      )
    all_goals try (exfalso; omega)
    all_goals (refine q_fin hwf (res_cons (res_tmp_p rfl) res_nil) ?_ ?_ ?_ ?_; (focus (rw [sortF_low (by omega), decide_eq_true (show l.length < 2 by omega), Bool.true_and]; rfl)); (focus (simp only [AV.under, AV.underL, Tok.under, and_self])); (focus (first | trivial | (simp only [keysP, and_true]; omega) | (repeat' (first | exact trivial | refine ⟨by omega, ?_⟩ | exact keys_vecB (fun k hk => by have := htk k hk; omega) trivial)))); omega)
  | succ N ih =>
    intro S nl l hN hl hnl
    refine q_fun hmix cP21 rfl (Nat.le_of_ble_eq_true rfl) fun hwf hu => ?_
    have hlm : (l.map Hf.pv).length = l.length := by simp
    repeat' (first
      | refine q_call (fun S => specP30 S nl l hl hnl) ?_
      | refine q_quo rfl rfl (by decide) (quo2 (by omega)) ?_
      | refine q_slice3 (l := 0) (h := ((l.length / 2 : Nat) : Int)) (ys := (l.take (l.length / 2)).map Hf.pv) rfl (rows4 _) rfl rfl (by omega) (by omega) (by omega) rfl slT ?_
      | refine q_slice (l := ((l.length / 2 : Nat) : Int)) (h := (l.length : Nat)) (ys := (l.drop (l.length / 2)).map Hf.pv) rfl (rows4 _) rfl (by simp [boundA]) (by omega) (by omega) (by omega) slD ?_
      | refine q_call (fun S => ASpec.fg (ih S nl (l.take (l.length / 2)) (by rw [List.length_take]; omega) (by rw [List.length_take]; omega) (fun e => by rw [hnl e]; rfl))) ?_
      | refine q_call (fun S => ASpec.fg (ih S nl (l.drop (l.length / 2)) (by rw [List.length_drop]; omega) (by rw [List.length_drop]; omega) (fun e => by rw [hnl e]; rfl))) ?_
      | refine q_call (fun S => specP31 S _ _ (sortF ls N (l.take (l.length / 2))) (sortF ls N (l.drop (l.length / 2))) (by rw [sortF_len, sortF_len, List.length_take, List.length_drop]; omega) ls f caps hc hf) ?_
      | refine q_seq ?_
      | (refine q_reg fun n' hn' => ?_; simp only [List.length_cons, List.length_nil, Nat.zero_add, Nat.reduceAdd] at hn')
      | refine q_mov_p rfl ?_
      | refine q_on rfl ?_
      | refine q_off rfl rfl ?_
      | refine q_off_tup rfl ?_
      | refine q_mov_agg rfl ?_
      | refine q_lss rfl rfl (fun h => ?_) (fun h => ?_)
      | refine q_nil_drawn trivial ?_
      | refine q_nil_drawn (sep1 rfl rfl (by omega) trivial) ?_
      | refine q_nil_drawn (sep1 rfl rfl (by omega) (sep1 rfl rfl (by omega) trivial)) ?_
      | refine q_nil ?_
      | refine q_normal ?_
      | refine q_cond_t rfl ?_
      | refine q_cond_f rfl ?_
      | refine q_ret ?_
      | refine q_skip ?_
      | refine q_seq_ret ?_
      | refine q_mov_ptr rfl ?_
      | refine q_mov_ref rfl ?_
      | refine q_mov_sl rfl ?_
      | refine q_mov_fn rfl ?_
      | refine q_lenS_map rfl ?_
      | refine q_lenS rfl ?_
      | refine q_nil_drawn trivial ?_
      | (refine q_drawn fun n' hn' => ?_; simp only [List.length_cons, List.length_nil, Nat.zero_add, Nat.reduceAdd] at hn')
      | refine q_mov_tup rfl ?_
      )
    · (refine q_fin hwf (res_cons (res_tmp_p rfl) res_nil) ?_ ?_ ?_ ?_; (focus (rw [sortF_low (by omega), decide_eq_true (show l.length < 2 by omega), Bool.true_and]; rfl)); (focus (simp only [AV.under, AV.underL, Tok.under, and_self])); (focus (first | trivial | (simp only [keysP, and_true]; omega) | (repeat' (first | exact trivial | refine ⟨by omega, ?_⟩ | exact keys_vecB (fun k hk => by have := htk k hk; omega) trivial)))); omega)
    · (refine q_fin hwf (res_cons (res_tmp rfl) res_nil) ?_ ?_ ?_ ?_; (focus ((rw [decide_eq_false (show ¬ l.length < 2 by omega), Bool.false_and]; simp only [sortF]; rw [if_neg (show ¬ l.length < 2 by omega)]; exact slOf_ne (by intro e; have := congrArg List.length e; rw [List.length_map, mergeL_len, sortF_len, sortF_len, List.length_take, List.length_drop] at this; simp only [List.length_nil] at this; omega)))); (focus (simp only [AV.under, AV.underL, Tok.under, and_self])); (focus (first | trivial | (simp only [keysP, and_true]; omega) | (repeat' (first | exact trivial | refine ⟨by omega, ?_⟩ | exact keys_vecB (fun k hk => by have := htk k hk; omega) trivial)))); omega)
end Go.Proofs.Ytakjakmhecfmiaa

