/- CONTRACTS: what bounds a result. -/
import Derived.Test.YtakjakmhecfmiaaCwSPd
set_option linter.unusedVariables false
set_option linter.unusedSimpArgs false
set_option maxHeartbeats 8000000
set_option maxRecDepth 20000
namespace Go.Proofs.Ytakjakmhecfmiaa
open Go.Cw
theorem get_vecB_out {Hf : Nat → Option Blk} {H : List (Nat × Blk)} {tk : Option Nat} {len sz k : Nat} {b : Blk} (h : ∀ k', tk = some k' → k ≠ k') (hb : getB Hf H k = some b) : getB Hf (vecB tk len sz H) k = some b := by
  cases tk with
  | none => exact hb
  | some k' => exact get_other (h k' rfl) hb
theorem ASpec.out {P : Program} {f : Nat} {xs : List (List PV)} {tk : Option Nat} {r : AV} {S' : St} {more : List AV} {S : St} (h : ASpec P f (.p (.sl tk.isNone xs) :: more) S r S') : ASpec P f (outV xs tk :: more) S r S' := by
  intro G w vs hS hr
  obtain ⟨v, vs', rfl, h1, h2⟩ := hr.uncons
  refine h G w _ hS (RepL.cons ?_ h2)
  unfold outV at h1
  cases h1 with | sl h1 _ => exact .p h1
theorem wkV_outs {n : Nat} {xs : List (List PV)} {tk : Option Nat} (h : ∀ k, tk = some k → k < n) : wkV n (outV xs tk) (outV xs tk) := by
  refine .same ?_
  cases tk with
  | none => exact trivial
  | some k => exact h k rfl
attribute [local irreducible] aops awp seqQ blockQ seqC loopQ endQ getB outV vecB

section
variable {P : Program} {m : CMode} {os : List AOper} {id : Nat} {F : Nat → AV} {S S0 : St} {K : (Nat → AV) → St → Prop} {d n : Nat} {H : List (Nat × Blk)} {x y c : Opd} {dst : Option Nat}
theorem q_callv_sb {f : Nat} {args : List Opd} {caps : List AV} {b : Bool} (hm : m ≠ .univ) (hx : evalO F x = .fn f caps) (hc : callable P f = true) (hs : ASpec P f (args.map (evalO F) ++ caps) S (.p (.bool b)) S) (h1 : b = true → aops P m os (id + 1) (updO F dst (.p (.bool true))) S K) (h2 : b = false → aops P m os (id + 1) (updO F dst (.p (.bool false))) S K) :
    aops P m (⟨dst, .callv x args, none⟩ :: os) id F S K := by
  refine q_callv_same hm hx hc hs ?_
  cases b
  · exact h2 rfl
  · exact h1 rfl
end

structure Lk where
  px : Int
  py : Int
  qx : Int
  qy : Int
  a : Int
  b : Int
deriving DecidableEq
def Lk.pv (k : Lk) : List PV := [.int .i64 k.px, .int .i64 k.py, .int .i64 k.qx, .int .i64 k.qy, .int .i64 k.a, .int .i64 k.b]
structure Sd where
  l0 : Int
  l1 : Int
  r0 : Int
  r1 : Int
deriving DecidableEq
def Sd.pv (s : Sd) : List PV := [.int .i64 s.l0, .int .i64 s.l1, .int .i64 s.r0, .int .i64 s.r1]

def lessH (x y : Hf) : Bool := decide (hcmp x y < 0)
def pick1 (op fi : Int) (x : Lk) (s : Sd) : List Hf :=
  if wantsB op fi s.l0 s.l1 = wantsB op fi s.r0 s.r1 then [] else if wantsB op fi s.r0 s.r1 then [⟨x.qx, x.qy, x.px, x.py⟩] else [⟨x.px, x.py, x.qx, x.qy⟩]
def pickF (op fi : Int) : List Lk → List Sd → List Hf
  | x :: l, s :: t => pick1 op fi x s ++ pickF op fi l t
  | _, _ => []
def sortL (l : List Hf) : List Hf := sortF lessH l.length l
def pickL (op fi : Int) (l : List Lk) (s : List Sd) : List Hf := if l.length = s.length then sortL (pickF op fi l s) else []

theorem callP17 : callable Try.prog 17 = true := by kernel_rfl
theorem callP19 : callable Try.prog 19 = true := by kernel_rfl
theorem callP20 : callable Try.prog 20 = true := by kernel_rfl
theorem callP22 : callable Try.prog 22 = true := by kernel_rfl
theorem hfP22 (x y : Hf) (S : St) : ASpec Try.prog 22 ([.agg (x.pv.map .p), .agg (y.pv.map .p)] ++ []) S (vb (lessH x y)) S := specP22 S _ _ _ _ _ _ _ _

structure HG where
  i : Nat
  n : Nat
  tk : Option Nat
  out : List Hf

theorem slOf_flag {xs : List (List PV)} {b : Bool} (h : b = xs.isEmpty) : pack [.p (.sl b xs)] = slOf xs := by subst h; rfl

theorem specP7 (S : St) (c0 c1 : AV) (op fi ru ca : Int) (nl ns : Bool) (l : List Lk) (s : List Sd) (hl : l.length ≤ 1048576) :
    ASpec Try.prog 7 [.agg [c0, c1, vi op, vi fi, vi ru, vi ca], .p (.sl nl (l.map Lk.pv)), .p (.sl ns (s.map Sd.pv))] S (slOf ((pickL op fi l s).map Hf.pv)) S := by
  refine q_fun hmix cP7 rfl (Nat.le_of_ble_eq_true rfl) fun hwf hu => ?_
  have hu0 : c0.under S.n := hu.1.1
  have hu1 : c1.under S.n := hu.1.2.1
  repeat' (first
    | refine q_seq ?_
    | (refine q_reg fun n' hn' => ?_; simp only [List.length_cons, List.length_nil, Nat.zero_add, Nat.reduceAdd] at hn')
    | refine q_mov_p rfl ?_
    | refine q_mov_agg rfl ?_
    | refine q_lss rfl rfl (fun h => ?_) (fun h => ?_)
    | refine q_neq rfl rfl (fun h => ?_) (fun h => ?_)
    | refine q_nil_drawn trivial ?_
    | refine q_nil_drawn (sep1 rfl rfl (by omega) trivial) ?_
    | refine q_nil_drawn (sep1 rfl rfl (by omega) (sep1 rfl rfl (by omega) trivial)) ?_
    | refine q_nil ?_
    | refine q_normal ?_
    | refine q_cond_t rfl ?_
    | refine q_cond_f rfl ?_
    | refine q_block ?_
    | refine q_exit ?_
    | refine q_ret ?_
    | refine q_skip ?_
    | refine q_seq_exit ?_
    | refine q_loop_exit ?_
    | refine q_loop_ret ?_
    | refine q_seq_ret ?_
    | refine q_block_normal ?_
    | refine q_block_ret ?_
    | refine q_block_hit ?_
    | refine q_block_miss rfl ?_
    | refine q_add rfl rfl (wrap64 (by omega)) ?_
    | refine q_eqB rfl rfl rfl ?_
    | (refine q_alloc fun k hk => ?_)
    | refine q_fadr rfl rfl ?_
    | refine q_fadr_ref rfl rfl ?_
    | refine q_mov_ptr rfl ?_
    | refine q_mov_ref rfl ?_
    | refine q_mov_sl rfl ?_
    | refine q_mov_fn rfl ?_
    | refine q_loadA_ref rfl (Nat.le_of_ble_eq_true rfl) (by first | (simp only [Lk.pv, Sd.pv, Hf.pv, List.take_zero, List.take_succ_cons, List.take_nil, List.drop_zero, List.drop_succ_cons, List.drop_nil, List.nil_append, List.cons_append, List.append_nil, List.map_cons, List.map_nil, List.replicate_succ, List.replicate_zero, List.flatten_cons, List.flatten_nil, Nat.zero_add, Nat.reduceAdd, chunk]; rfl) | rfl) ?_
    | refine q_loadA rfl (by repeat (first | exact get_same | refine get_other (by omega) ?_)) (Nat.le_of_ble_eq_true rfl) (by first | (simp only [Lk.pv, Sd.pv, Hf.pv, List.take_zero, List.take_succ_cons, List.take_nil, List.drop_zero, List.drop_succ_cons, List.drop_nil, List.nil_append, List.cons_append, List.append_nil, List.map_cons, List.map_nil, List.replicate_succ, List.replicate_zero, List.flatten_cons, List.flatten_nil, Nat.zero_add, Nat.reduceAdd, chunk]; rfl) | rfl) ?_
    | refine q_store_agg rfl (by repeat (first | exact get_same | refine get_other (by omega) ?_)) rfl rfl (Nat.le_of_ble_eq_true rfl) (by first | (simp only [Lk.pv, Sd.pv, Hf.pv, List.take_zero, List.take_succ_cons, List.take_nil, List.drop_zero, List.drop_succ_cons, List.drop_nil, List.nil_append, List.cons_append, List.append_nil, List.map_cons, List.map_nil, List.replicate_succ, List.replicate_zero, List.flatten_cons, List.flatten_nil, Nat.zero_add, Nat.reduceAdd, chunk]; rfl) | rfl) ?_
    | refine q_store_p rfl (by repeat (first | exact get_same | refine get_other (by omega) ?_)) rfl (Nat.le_of_ble_eq_true rfl) (by first | (simp only [Lk.pv, Sd.pv, Hf.pv, List.take_zero, List.take_succ_cons, List.take_nil, List.drop_zero, List.drop_succ_cons, List.drop_nil, List.nil_append, List.cons_append, List.append_nil, List.map_cons, List.map_nil, List.replicate_succ, List.replicate_zero, List.flatten_cons, List.flatten_nil, Nat.zero_add, Nat.reduceAdd, chunk]; rfl) | rfl) ?_
    | refine q_store_sl rfl (by repeat (first | exact get_same | refine get_other (by omega) ?_)) rfl (Nat.le_of_ble_eq_true rfl) (by first | (simp only [Lk.pv, Sd.pv, Hf.pv, List.take_zero, List.take_succ_cons, List.take_nil, List.drop_zero, List.drop_succ_cons, List.drop_nil, List.nil_append, List.cons_append, List.append_nil, List.map_cons, List.map_nil, List.replicate_succ, List.replicate_zero, List.flatten_cons, List.flatten_nil, Nat.zero_add, Nat.reduceAdd, chunk]; rfl) | rfl) ?_
    | refine q_store_fn rfl (by repeat (first | exact get_same | refine get_other (by omega) ?_)) rfl (Nat.le_of_ble_eq_true rfl) (by first | (simp only [Lk.pv, Sd.pv, Hf.pv, List.take_zero, List.take_succ_cons, List.take_nil, List.drop_zero, List.drop_succ_cons, List.drop_nil, List.nil_append, List.cons_append, List.append_nil, List.map_cons, List.map_nil, List.replicate_succ, List.replicate_zero, List.flatten_cons, List.flatten_nil, Nat.zero_add, Nat.reduceAdd, chunk]; rfl) | rfl) ?_
    | refine q_lenS_map rfl ?_
    | refine q_lenS rfl ?_
    | refine q_nil_drawn trivial ?_
    | (refine q_drawn fun n' hn' => ?_; simp only [List.length_cons, List.length_nil, Nat.zero_add, Nat.reduceAdd] at hn')
    | refine q_iadrS_nat rfl rfl (get_map (by omega)) rfl ?_
    | (apply q_build; (focus (repeat' (first | exact fill_nil | (apply fill_p rfl (Nat.le_of_ble_eq_true rfl); (focus (first | (simp only [Lk.pv, Sd.pv, Hf.pv, List.take_zero, List.take_succ_cons, List.take_nil, List.drop_zero, List.drop_succ_cons, List.drop_nil, List.nil_append, List.cons_append, List.append_nil, List.map_cons, List.map_nil, List.replicate_succ, List.replicate_zero, List.flatten_cons, List.flatten_nil, Nat.zero_add, Nat.reduceAdd, chunk]; rfl) | rfl))) | (apply fill_agg; (focus rfl); (focus rfl); (focus exact Nat.le_of_ble_eq_true rfl); (focus (first | (simp only [Lk.pv, Sd.pv, Hf.pv, List.take_zero, List.take_succ_cons, List.take_nil, List.drop_zero, List.drop_succ_cons, List.drop_nil, List.nil_append, List.cons_append, List.append_nil, List.map_cons, List.map_nil, List.replicate_succ, List.replicate_zero, List.flatten_cons, List.flatten_nil, Nat.zero_add, Nat.reduceAdd, chunk]; rfl) | rfl))) | (apply fill_sl rfl (Nat.le_of_ble_eq_true rfl); (focus (first | (simp only [Lk.pv, Sd.pv, Hf.pv, List.take_zero, List.take_succ_cons, List.take_nil, List.drop_zero, List.drop_succ_cons, List.drop_nil, List.nil_append, List.cons_append, List.append_nil, List.map_cons, List.map_nil, List.replicate_succ, List.replicate_zero, List.flatten_cons, List.flatten_nil, Nat.zero_add, Nat.reduceAdd, chunk]; rfl) | rfl))) | (apply fill_fn rfl (Nat.le_of_ble_eq_true rfl); (focus (first | (simp only [Lk.pv, Sd.pv, Hf.pv, List.take_zero, List.take_succ_cons, List.take_nil, List.drop_zero, List.drop_succ_cons, List.drop_nil, List.nil_append, List.cons_append, List.append_nil, List.map_cons, List.map_nil, List.replicate_succ, List.replicate_zero, List.flatten_cons, List.flatten_nil, Nat.zero_add, Nat.reduceAdd, chunk]; rfl) | rfl))) | (apply fill_ptr rfl (Nat.le_of_ble_eq_true rfl); (focus (first | (simp only [Lk.pv, Sd.pv, Hf.pv, List.take_zero, List.take_succ_cons, List.take_nil, List.drop_zero, List.drop_succ_cons, List.drop_nil, List.nil_append, List.cons_append, List.append_nil, List.map_cons, List.map_nil, List.replicate_succ, List.replicate_zero, List.flatten_cons, List.flatten_nil, Nat.zero_add, Nat.reduceAdd, chunk]; rfl) | rfl)))))))
    | refine q_mov_out rfl ?_
    | refine q_mov_tup rfl ?_
    | (apply q_bslice; (focus (repeat' (first | exact fill_nil | (apply fill_p rfl (Nat.le_of_ble_eq_true rfl); (focus (first | (simp only [Lk.pv, Sd.pv, Hf.pv, List.take_zero, List.take_succ_cons, List.take_nil, List.drop_zero, List.drop_succ_cons, List.drop_nil, List.nil_append, List.cons_append, List.append_nil, List.map_cons, List.map_nil, List.replicate_succ, List.replicate_zero, List.flatten_cons, List.flatten_nil, Nat.zero_add, Nat.reduceAdd, chunk]; rfl) | rfl))) | (apply fill_agg; (focus rfl); (focus rfl); (focus exact Nat.le_of_ble_eq_true rfl); (focus (first | (simp only [Lk.pv, Sd.pv, Hf.pv, List.take_zero, List.take_succ_cons, List.take_nil, List.drop_zero, List.drop_succ_cons, List.drop_nil, List.nil_append, List.cons_append, List.append_nil, List.map_cons, List.map_nil, List.replicate_succ, List.replicate_zero, List.flatten_cons, List.flatten_nil, Nat.zero_add, Nat.reduceAdd, chunk]; rfl) | rfl))) | (apply fill_sl rfl (Nat.le_of_ble_eq_true rfl); (focus (first | (simp only [Lk.pv, Sd.pv, Hf.pv, List.take_zero, List.take_succ_cons, List.take_nil, List.drop_zero, List.drop_succ_cons, List.drop_nil, List.nil_append, List.cons_append, List.append_nil, List.map_cons, List.map_nil, List.replicate_succ, List.replicate_zero, List.flatten_cons, List.flatten_nil, Nat.zero_add, Nat.reduceAdd, chunk]; rfl) | rfl))) | (apply fill_fn rfl (Nat.le_of_ble_eq_true rfl); (focus (first | (simp only [Lk.pv, Sd.pv, Hf.pv, List.take_zero, List.take_succ_cons, List.take_nil, List.drop_zero, List.drop_succ_cons, List.drop_nil, List.nil_append, List.cons_append, List.append_nil, List.map_cons, List.map_nil, List.replicate_succ, List.replicate_zero, List.flatten_cons, List.flatten_nil, Nat.zero_add, Nat.reduceAdd, chunk]; rfl) | rfl))) | (apply fill_ptr rfl (Nat.le_of_ble_eq_true rfl); (focus (first | (simp only [Lk.pv, Sd.pv, Hf.pv, List.take_zero, List.take_succ_cons, List.take_nil, List.drop_zero, List.drop_succ_cons, List.drop_nil, List.nil_append, List.cons_append, List.append_nil, List.map_cons, List.map_nil, List.replicate_succ, List.replicate_zero, List.flatten_cons, List.flatten_nil, Nat.zero_add, Nat.reduceAdd, chunk]; rfl) | rfl)))))); (focus rfl); (focus (first | (simp only [Lk.pv, Sd.pv, Hf.pv, List.take_zero, List.take_succ_cons, List.take_nil, List.drop_zero, List.drop_succ_cons, List.drop_nil, List.nil_append, List.cons_append, List.append_nil, List.map_cons, List.map_nil, List.replicate_succ, List.replicate_zero, List.flatten_cons, List.flatten_nil, Nat.zero_add, Nat.reduceAdd, chunk]; rfl) | rfl)))
    | (apply q_mkfn; (focus (repeat' (first | exact mapE_nil | (apply mapE_p; (focus rfl)) | (apply mapE_ptr; (focus rfl)) | (apply mapE_ref; (focus rfl)) | (apply mapE_agg; (focus rfl)) | (apply mapE_fn; (focus rfl)) | (apply mapE_sl; (focus rfl))))))
    )
  refine q_box_agg rfl fun k3 hk3 => ?_
  repeat' (first
    | refine q_seq ?_
    | (refine q_reg fun n' hn' => ?_; simp only [List.length_cons, List.length_nil, Nat.zero_add, Nat.reduceAdd] at hn')
    | refine q_mov_p rfl ?_
    | refine q_mov_agg rfl ?_
    | refine q_lss rfl rfl (fun h => ?_) (fun h => ?_)
    | refine q_neq rfl rfl (fun h => ?_) (fun h => ?_)
    | refine q_nil_drawn trivial ?_
    | refine q_nil_drawn (sep1 rfl rfl (by omega) trivial) ?_
    | refine q_nil_drawn (sep1 rfl rfl (by omega) (sep1 rfl rfl (by omega) trivial)) ?_
    | refine q_nil ?_
    | refine q_normal ?_
    | refine q_cond_t rfl ?_
    | refine q_cond_f rfl ?_
    | refine q_block ?_
    | refine q_exit ?_
    | refine q_ret ?_
    | refine q_skip ?_
    | refine q_seq_exit ?_
    | refine q_loop_exit ?_
    | refine q_loop_ret ?_
    | refine q_seq_ret ?_
    | refine q_block_normal ?_
    | refine q_block_ret ?_
    | refine q_block_hit ?_
    | refine q_block_miss rfl ?_
    | refine q_add rfl rfl (wrap64 (by omega)) ?_
    | refine q_eqB rfl rfl rfl ?_
    | (refine q_alloc fun k hk => ?_)
    | (refine q_box_agg rfl fun k hk => ?_)
    | (refine q_box_p rfl fun k hk => ?_)
    | (refine q_box_sl rfl fun k hk => ?_)
    | (refine q_box_fn rfl fun k hk => ?_)
    | refine q_fadr rfl rfl ?_
    | refine q_fadr_ref rfl rfl ?_
    | refine q_mov_ptr rfl ?_
    | refine q_mov_ref rfl ?_
    | refine q_mov_sl rfl ?_
    | refine q_mov_fn rfl ?_
    | refine q_loadA_ref rfl (Nat.le_of_ble_eq_true rfl) (by first | (simp only [Lk.pv, Sd.pv, Hf.pv, List.take_zero, List.take_succ_cons, List.take_nil, List.drop_zero, List.drop_succ_cons, List.drop_nil, List.nil_append, List.cons_append, List.append_nil, List.map_cons, List.map_nil, List.replicate_succ, List.replicate_zero, List.flatten_cons, List.flatten_nil, Nat.zero_add, Nat.reduceAdd, chunk]; rfl) | rfl) ?_
    | refine q_loadA rfl (by repeat (first | exact get_same | refine get_other (by omega) ?_)) (Nat.le_of_ble_eq_true rfl) (by first | (simp only [Lk.pv, Sd.pv, Hf.pv, List.take_zero, List.take_succ_cons, List.take_nil, List.drop_zero, List.drop_succ_cons, List.drop_nil, List.nil_append, List.cons_append, List.append_nil, List.map_cons, List.map_nil, List.replicate_succ, List.replicate_zero, List.flatten_cons, List.flatten_nil, Nat.zero_add, Nat.reduceAdd, chunk]; rfl) | rfl) ?_
    | refine q_store_agg rfl (by repeat (first | exact get_same | refine get_other (by omega) ?_)) rfl rfl (Nat.le_of_ble_eq_true rfl) (by first | (simp only [Lk.pv, Sd.pv, Hf.pv, List.take_zero, List.take_succ_cons, List.take_nil, List.drop_zero, List.drop_succ_cons, List.drop_nil, List.nil_append, List.cons_append, List.append_nil, List.map_cons, List.map_nil, List.replicate_succ, List.replicate_zero, List.flatten_cons, List.flatten_nil, Nat.zero_add, Nat.reduceAdd, chunk]; rfl) | rfl) ?_
    | refine q_store_p rfl (by repeat (first | exact get_same | refine get_other (by omega) ?_)) rfl (Nat.le_of_ble_eq_true rfl) (by first | (simp only [Lk.pv, Sd.pv, Hf.pv, List.take_zero, List.take_succ_cons, List.take_nil, List.drop_zero, List.drop_succ_cons, List.drop_nil, List.nil_append, List.cons_append, List.append_nil, List.map_cons, List.map_nil, List.replicate_succ, List.replicate_zero, List.flatten_cons, List.flatten_nil, Nat.zero_add, Nat.reduceAdd, chunk]; rfl) | rfl) ?_
    | refine q_store_sl rfl (by repeat (first | exact get_same | refine get_other (by omega) ?_)) rfl (Nat.le_of_ble_eq_true rfl) (by first | (simp only [Lk.pv, Sd.pv, Hf.pv, List.take_zero, List.take_succ_cons, List.take_nil, List.drop_zero, List.drop_succ_cons, List.drop_nil, List.nil_append, List.cons_append, List.append_nil, List.map_cons, List.map_nil, List.replicate_succ, List.replicate_zero, List.flatten_cons, List.flatten_nil, Nat.zero_add, Nat.reduceAdd, chunk]; rfl) | rfl) ?_
    | refine q_store_fn rfl (by repeat (first | exact get_same | refine get_other (by omega) ?_)) rfl (Nat.le_of_ble_eq_true rfl) (by first | (simp only [Lk.pv, Sd.pv, Hf.pv, List.take_zero, List.take_succ_cons, List.take_nil, List.drop_zero, List.drop_succ_cons, List.drop_nil, List.nil_append, List.cons_append, List.append_nil, List.map_cons, List.map_nil, List.replicate_succ, List.replicate_zero, List.flatten_cons, List.flatten_nil, Nat.zero_add, Nat.reduceAdd, chunk]; rfl) | rfl) ?_
    | refine q_lenS_map rfl ?_
    | refine q_lenS rfl ?_
    | refine q_nil_drawn trivial ?_
    | (refine q_drawn fun n' hn' => ?_; simp only [List.length_cons, List.length_nil, Nat.zero_add, Nat.reduceAdd] at hn')
    | refine q_iadrS_nat rfl rfl (get_map (by omega)) rfl ?_
    | (apply q_build; (focus (repeat' (first | exact fill_nil | (apply fill_p rfl (Nat.le_of_ble_eq_true rfl); (focus (first | (simp only [Lk.pv, Sd.pv, Hf.pv, List.take_zero, List.take_succ_cons, List.take_nil, List.drop_zero, List.drop_succ_cons, List.drop_nil, List.nil_append, List.cons_append, List.append_nil, List.map_cons, List.map_nil, List.replicate_succ, List.replicate_zero, List.flatten_cons, List.flatten_nil, Nat.zero_add, Nat.reduceAdd, chunk]; rfl) | rfl))) | (apply fill_agg; (focus rfl); (focus rfl); (focus exact Nat.le_of_ble_eq_true rfl); (focus (first | (simp only [Lk.pv, Sd.pv, Hf.pv, List.take_zero, List.take_succ_cons, List.take_nil, List.drop_zero, List.drop_succ_cons, List.drop_nil, List.nil_append, List.cons_append, List.append_nil, List.map_cons, List.map_nil, List.replicate_succ, List.replicate_zero, List.flatten_cons, List.flatten_nil, Nat.zero_add, Nat.reduceAdd, chunk]; rfl) | rfl))) | (apply fill_sl rfl (Nat.le_of_ble_eq_true rfl); (focus (first | (simp only [Lk.pv, Sd.pv, Hf.pv, List.take_zero, List.take_succ_cons, List.take_nil, List.drop_zero, List.drop_succ_cons, List.drop_nil, List.nil_append, List.cons_append, List.append_nil, List.map_cons, List.map_nil, List.replicate_succ, List.replicate_zero, List.flatten_cons, List.flatten_nil, Nat.zero_add, Nat.reduceAdd, chunk]; rfl) | rfl))) | (apply fill_fn rfl (Nat.le_of_ble_eq_true rfl); (focus (first | (simp only [Lk.pv, Sd.pv, Hf.pv, List.take_zero, List.take_succ_cons, List.take_nil, List.drop_zero, List.drop_succ_cons, List.drop_nil, List.nil_append, List.cons_append, List.append_nil, List.map_cons, List.map_nil, List.replicate_succ, List.replicate_zero, List.flatten_cons, List.flatten_nil, Nat.zero_add, Nat.reduceAdd, chunk]; rfl) | rfl))) | (apply fill_ptr rfl (Nat.le_of_ble_eq_true rfl); (focus (first | (simp only [Lk.pv, Sd.pv, Hf.pv, List.take_zero, List.take_succ_cons, List.take_nil, List.drop_zero, List.drop_succ_cons, List.drop_nil, List.nil_append, List.cons_append, List.append_nil, List.map_cons, List.map_nil, List.replicate_succ, List.replicate_zero, List.flatten_cons, List.flatten_nil, Nat.zero_add, Nat.reduceAdd, chunk]; rfl) | rfl)))))))
    | refine q_mov_out rfl ?_
    | refine q_mov_tup rfl ?_
    | (apply q_bslice; (focus (repeat' (first | exact fill_nil | (apply fill_p rfl (Nat.le_of_ble_eq_true rfl); (focus (first | (simp only [Lk.pv, Sd.pv, Hf.pv, List.take_zero, List.take_succ_cons, List.take_nil, List.drop_zero, List.drop_succ_cons, List.drop_nil, List.nil_append, List.cons_append, List.append_nil, List.map_cons, List.map_nil, List.replicate_succ, List.replicate_zero, List.flatten_cons, List.flatten_nil, Nat.zero_add, Nat.reduceAdd, chunk]; rfl) | rfl))) | (apply fill_agg; (focus rfl); (focus rfl); (focus exact Nat.le_of_ble_eq_true rfl); (focus (first | (simp only [Lk.pv, Sd.pv, Hf.pv, List.take_zero, List.take_succ_cons, List.take_nil, List.drop_zero, List.drop_succ_cons, List.drop_nil, List.nil_append, List.cons_append, List.append_nil, List.map_cons, List.map_nil, List.replicate_succ, List.replicate_zero, List.flatten_cons, List.flatten_nil, Nat.zero_add, Nat.reduceAdd, chunk]; rfl) | rfl))) | (apply fill_sl rfl (Nat.le_of_ble_eq_true rfl); (focus (first | (simp only [Lk.pv, Sd.pv, Hf.pv, List.take_zero, List.take_succ_cons, List.take_nil, List.drop_zero, List.drop_succ_cons, List.drop_nil, List.nil_append, List.cons_append, List.append_nil, List.map_cons, List.map_nil, List.replicate_succ, List.replicate_zero, List.flatten_cons, List.flatten_nil, Nat.zero_add, Nat.reduceAdd, chunk]; rfl) | rfl))) | (apply fill_fn rfl (Nat.le_of_ble_eq_true rfl); (focus (first | (simp only [Lk.pv, Sd.pv, Hf.pv, List.take_zero, List.take_succ_cons, List.take_nil, List.drop_zero, List.drop_succ_cons, List.drop_nil, List.nil_append, List.cons_append, List.append_nil, List.map_cons, List.map_nil, List.replicate_succ, List.replicate_zero, List.flatten_cons, List.flatten_nil, Nat.zero_add, Nat.reduceAdd, chunk]; rfl) | rfl))) | (apply fill_ptr rfl (Nat.le_of_ble_eq_true rfl); (focus (first | (simp only [Lk.pv, Sd.pv, Hf.pv, List.take_zero, List.take_succ_cons, List.take_nil, List.drop_zero, List.drop_succ_cons, List.drop_nil, List.nil_append, List.cons_append, List.append_nil, List.map_cons, List.map_nil, List.replicate_succ, List.replicate_zero, List.flatten_cons, List.flatten_nil, Nat.zero_add, Nat.reduceAdd, chunk]; rfl) | rfl)))))); (focus rfl); (focus (first | (simp only [Lk.pv, Sd.pv, Hf.pv, List.take_zero, List.take_succ_cons, List.take_nil, List.drop_zero, List.drop_succ_cons, List.drop_nil, List.nil_append, List.cons_append, List.append_nil, List.map_cons, List.map_nil, List.replicate_succ, List.replicate_zero, List.flatten_cons, List.flatten_nil, Nat.zero_add, Nat.reduceAdd, chunk]; rfl) | rfl)))
    | (apply q_mkfn; (focus (repeat' (first | exact mapE_nil | (apply mapE_p; (focus rfl)) | (apply mapE_ptr; (focus rfl)) | (apply mapE_ref; (focus rfl)) | (apply mapE_agg; (focus rfl)) | (apply mapE_fn; (focus rfl)) | (apply mapE_sl; (focus rfl))))))
    )
  · have e : pickL op fi l s = [] := by rw [pickL, if_neg (by omega)]
    rw [e]
    exact q_end_ret hwf (res_cons (res_tmp rfl) res_nil) (.no _ _ _) (by first | trivial | (simp only [keysP, and_true]; omega) | (repeat' (first | exact trivial | refine ⟨by omega, ?_⟩ | refine keys_vecB (fun k hk => by have := htk k hk; omega) ?_))) (by omega)
  · have hls : l.length = s.length := by omega
    refine q_loop (γ := HG) (fun g => [(2, .p (.sl ns (s.map Sd.pv))), (7, .fn 17 [.ptr k3 0]), (8, outV (g.out.map Hf.pv) g.tk), (20, .p (.sl nl (l.map Lk.pv))), (21, vi (l.length : Nat)), (22, vi g.i)]) (fun g => ST S g.n (vecB g.tk (g.out.map Hf.pv).length 4 [(k3, .cells [c0, c1, vi op, vi fi, vi ru, vi ca])]))
      (fun g => g.i ≤ l.length ∧ n' ≤ g.n ∧ g.out.length ≤ g.i ∧ g.out ++ pickF op fi (l.drop g.i) (s.drop g.i) = pickF op fi l s ∧ (g.tk = none → g.out = []) ∧ ∀ k, g.tk = some k → n' ≤ k ∧ k < g.n ∧ g.out ≠ []) (fun g => l.length - g.i) ⟨0, n', none, []⟩ (by simp) ?_ ?_
    · dsimp only
      refine wk_mk hwf (by omega) (by omega) (by first | trivial | (simp only [keysP, and_true]; omega) | (repeat' (first | exact trivial | refine ⟨by omega, ?_⟩ | refine keys_vecB (fun k hk => by have := htk k hk; omega) ?_))) (blks_vecB (fun k hk => by cases hk) ⟨⟨(by repeat (first | exact get_same | refine get_other (by omega) ?_)), by omega, under_mono (by omega) hu0, under_mono (by omega) hu1, trivial, trivial, trivial, trivial, trivial⟩, trivial⟩) ?_
      simp only [fitsP]
      exact ⟨.same trivial, .same ⟨(show k3 < _ by omega), trivial⟩, wkV_out0, .same trivial, .same trivial, .same trivial, trivial⟩
    · rintro ⟨i, n0, tk, out⟩ ⟨hi, hn0, hol, hout0, htk0, htk⟩
      dsimp only at *
      have hln : (out.map Hf.pv).length ≤ 1048576 := by rw [List.length_map]; omega
      repeat' (first
        | refine q_iadrS_nat (pv := Lk.pv) (i := i) rfl rfl (get_map (by omega)) rfl ?_
        | refine q_iadrS_nat (i := i) rfl rfl (get_map (by omega)) rfl ?_
        | refine q_callv_sb (by simp) rfl callP17 (specP17 _ k3 c0 c1 op fi ru ca _ _ (show getB _ _ _ = _ from (by (repeat (refine get_other (by omega) ?_)); exact get_vecB_out (fun k' hk' => by have := htk k' hk'; omega) get_same))) (fun hb => ?_) (fun hb => ?_)
        | refine q_callv rfl callP19 (fun S => specP19 S _ _ _ _) ?_
        | refine q_callv rfl callP20 (fun S => specP20 S _ _ _ _) ?_
        | (refine q_append_out (tk := tk) rfl rfl (rows4 _) rfl (by omega) (by omega) (fun k hk => by have := htk k hk; (repeat (refine get_other (by omega) ?_)); exact get_vecB_self k hk) (fun k9 hk9 => ?_))
        | refine q_seq ?_
        | (refine q_reg fun n' hn' => ?_; simp only [List.length_cons, List.length_nil, Nat.zero_add, Nat.reduceAdd] at hn')
        | refine q_mov_p rfl ?_
        | refine q_mov_agg rfl ?_
        | refine q_lss rfl rfl (fun h => ?_) (fun h => ?_)
        | refine q_neq rfl rfl (fun h => ?_) (fun h => ?_)
        | refine q_nil_drawn trivial ?_
        | refine q_nil_drawn (sep1 rfl rfl (by omega) trivial) ?_
        | refine q_nil_drawn (sep1 rfl rfl (by omega) (sep1 rfl rfl (by omega) trivial)) ?_
        | refine q_nil ?_
        | refine q_normal ?_
        | refine q_cond_t rfl ?_
        | refine q_cond_f rfl ?_
        | refine q_block ?_
        | refine q_exit ?_
        | refine q_ret ?_
        | refine q_skip ?_
        | refine q_seq_exit ?_
        | refine q_loop_exit ?_
        | refine q_loop_ret ?_
        | refine q_seq_ret ?_
        | refine q_block_normal ?_
        | refine q_block_ret ?_
        | refine q_block_hit ?_
        | refine q_block_miss rfl ?_
        | refine q_add rfl rfl (wrap64 (by omega)) ?_
        | refine q_eqB rfl rfl rfl ?_
        | (refine q_alloc fun k hk => ?_)
        | (refine q_box_agg rfl fun k hk => ?_)
        | (refine q_box_p rfl fun k hk => ?_)
        | (refine q_box_sl rfl fun k hk => ?_)
        | (refine q_box_fn rfl fun k hk => ?_)
        | refine q_fadr rfl rfl ?_
        | refine q_fadr_ref rfl rfl ?_
        | refine q_mov_ptr rfl ?_
        | refine q_mov_ref rfl ?_
        | refine q_mov_sl rfl ?_
        | refine q_mov_fn rfl ?_
        | refine q_loadA_ref rfl (Nat.le_of_ble_eq_true rfl) (by first | (simp only [Lk.pv, Sd.pv, Hf.pv, List.take_zero, List.take_succ_cons, List.take_nil, List.drop_zero, List.drop_succ_cons, List.drop_nil, List.nil_append, List.cons_append, List.append_nil, List.map_cons, List.map_nil, List.replicate_succ, List.replicate_zero, List.flatten_cons, List.flatten_nil, Nat.zero_add, Nat.reduceAdd, chunk]; rfl) | rfl) ?_
        | refine q_loadA rfl (by repeat (first | exact get_same | refine get_other (by omega) ?_)) (Nat.le_of_ble_eq_true rfl) (by first | (simp only [Lk.pv, Sd.pv, Hf.pv, List.take_zero, List.take_succ_cons, List.take_nil, List.drop_zero, List.drop_succ_cons, List.drop_nil, List.nil_append, List.cons_append, List.append_nil, List.map_cons, List.map_nil, List.replicate_succ, List.replicate_zero, List.flatten_cons, List.flatten_nil, Nat.zero_add, Nat.reduceAdd, chunk]; rfl) | rfl) ?_
        | refine q_store_agg rfl (by repeat (first | exact get_same | refine get_other (by omega) ?_)) rfl rfl (Nat.le_of_ble_eq_true rfl) (by first | (simp only [Lk.pv, Sd.pv, Hf.pv, List.take_zero, List.take_succ_cons, List.take_nil, List.drop_zero, List.drop_succ_cons, List.drop_nil, List.nil_append, List.cons_append, List.append_nil, List.map_cons, List.map_nil, List.replicate_succ, List.replicate_zero, List.flatten_cons, List.flatten_nil, Nat.zero_add, Nat.reduceAdd, chunk]; rfl) | rfl) ?_
        | refine q_store_p rfl (by repeat (first | exact get_same | refine get_other (by omega) ?_)) rfl (Nat.le_of_ble_eq_true rfl) (by first | (simp only [Lk.pv, Sd.pv, Hf.pv, List.take_zero, List.take_succ_cons, List.take_nil, List.drop_zero, List.drop_succ_cons, List.drop_nil, List.nil_append, List.cons_append, List.append_nil, List.map_cons, List.map_nil, List.replicate_succ, List.replicate_zero, List.flatten_cons, List.flatten_nil, Nat.zero_add, Nat.reduceAdd, chunk]; rfl) | rfl) ?_
        | refine q_store_sl rfl (by repeat (first | exact get_same | refine get_other (by omega) ?_)) rfl (Nat.le_of_ble_eq_true rfl) (by first | (simp only [Lk.pv, Sd.pv, Hf.pv, List.take_zero, List.take_succ_cons, List.take_nil, List.drop_zero, List.drop_succ_cons, List.drop_nil, List.nil_append, List.cons_append, List.append_nil, List.map_cons, List.map_nil, List.replicate_succ, List.replicate_zero, List.flatten_cons, List.flatten_nil, Nat.zero_add, Nat.reduceAdd, chunk]; rfl) | rfl) ?_
        | refine q_store_fn rfl (by repeat (first | exact get_same | refine get_other (by omega) ?_)) rfl (Nat.le_of_ble_eq_true rfl) (by first | (simp only [Lk.pv, Sd.pv, Hf.pv, List.take_zero, List.take_succ_cons, List.take_nil, List.drop_zero, List.drop_succ_cons, List.drop_nil, List.nil_append, List.cons_append, List.append_nil, List.map_cons, List.map_nil, List.replicate_succ, List.replicate_zero, List.flatten_cons, List.flatten_nil, Nat.zero_add, Nat.reduceAdd, chunk]; rfl) | rfl) ?_
        | refine q_lenS_map rfl ?_
        | refine q_lenS rfl ?_
        | refine q_nil_drawn trivial ?_
        | (refine q_drawn fun n' hn' => ?_; simp only [List.length_cons, List.length_nil, Nat.zero_add, Nat.reduceAdd] at hn')
        | refine q_iadrS_nat rfl rfl (get_map (by omega)) rfl ?_
        | (apply q_build; (focus (repeat' (first | exact fill_nil | (apply fill_p rfl (Nat.le_of_ble_eq_true rfl); (focus (first | (simp only [Lk.pv, Sd.pv, Hf.pv, List.take_zero, List.take_succ_cons, List.take_nil, List.drop_zero, List.drop_succ_cons, List.drop_nil, List.nil_append, List.cons_append, List.append_nil, List.map_cons, List.map_nil, List.replicate_succ, List.replicate_zero, List.flatten_cons, List.flatten_nil, Nat.zero_add, Nat.reduceAdd, chunk]; rfl) | rfl))) | (apply fill_agg; (focus rfl); (focus rfl); (focus exact Nat.le_of_ble_eq_true rfl); (focus (first | (simp only [Lk.pv, Sd.pv, Hf.pv, List.take_zero, List.take_succ_cons, List.take_nil, List.drop_zero, List.drop_succ_cons, List.drop_nil, List.nil_append, List.cons_append, List.append_nil, List.map_cons, List.map_nil, List.replicate_succ, List.replicate_zero, List.flatten_cons, List.flatten_nil, Nat.zero_add, Nat.reduceAdd, chunk]; rfl) | rfl))) | (apply fill_sl rfl (Nat.le_of_ble_eq_true rfl); (focus (first | (simp only [Lk.pv, Sd.pv, Hf.pv, List.take_zero, List.take_succ_cons, List.take_nil, List.drop_zero, List.drop_succ_cons, List.drop_nil, List.nil_append, List.cons_append, List.append_nil, List.map_cons, List.map_nil, List.replicate_succ, List.replicate_zero, List.flatten_cons, List.flatten_nil, Nat.zero_add, Nat.reduceAdd, chunk]; rfl) | rfl))) | (apply fill_fn rfl (Nat.le_of_ble_eq_true rfl); (focus (first | (simp only [Lk.pv, Sd.pv, Hf.pv, List.take_zero, List.take_succ_cons, List.take_nil, List.drop_zero, List.drop_succ_cons, List.drop_nil, List.nil_append, List.cons_append, List.append_nil, List.map_cons, List.map_nil, List.replicate_succ, List.replicate_zero, List.flatten_cons, List.flatten_nil, Nat.zero_add, Nat.reduceAdd, chunk]; rfl) | rfl))) | (apply fill_ptr rfl (Nat.le_of_ble_eq_true rfl); (focus (first | (simp only [Lk.pv, Sd.pv, Hf.pv, List.take_zero, List.take_succ_cons, List.take_nil, List.drop_zero, List.drop_succ_cons, List.drop_nil, List.nil_append, List.cons_append, List.append_nil, List.map_cons, List.map_nil, List.replicate_succ, List.replicate_zero, List.flatten_cons, List.flatten_nil, Nat.zero_add, Nat.reduceAdd, chunk]; rfl) | rfl)))))))
        | refine q_mov_out rfl ?_
        | refine q_mov_tup rfl ?_
        | (apply q_bslice; (focus (repeat' (first | exact fill_nil | (apply fill_p rfl (Nat.le_of_ble_eq_true rfl); (focus (first | (simp only [Lk.pv, Sd.pv, Hf.pv, List.take_zero, List.take_succ_cons, List.take_nil, List.drop_zero, List.drop_succ_cons, List.drop_nil, List.nil_append, List.cons_append, List.append_nil, List.map_cons, List.map_nil, List.replicate_succ, List.replicate_zero, List.flatten_cons, List.flatten_nil, Nat.zero_add, Nat.reduceAdd, chunk]; rfl) | rfl))) | (apply fill_agg; (focus rfl); (focus rfl); (focus exact Nat.le_of_ble_eq_true rfl); (focus (first | (simp only [Lk.pv, Sd.pv, Hf.pv, List.take_zero, List.take_succ_cons, List.take_nil, List.drop_zero, List.drop_succ_cons, List.drop_nil, List.nil_append, List.cons_append, List.append_nil, List.map_cons, List.map_nil, List.replicate_succ, List.replicate_zero, List.flatten_cons, List.flatten_nil, Nat.zero_add, Nat.reduceAdd, chunk]; rfl) | rfl))) | (apply fill_sl rfl (Nat.le_of_ble_eq_true rfl); (focus (first | (simp only [Lk.pv, Sd.pv, Hf.pv, List.take_zero, List.take_succ_cons, List.take_nil, List.drop_zero, List.drop_succ_cons, List.drop_nil, List.nil_append, List.cons_append, List.append_nil, List.map_cons, List.map_nil, List.replicate_succ, List.replicate_zero, List.flatten_cons, List.flatten_nil, Nat.zero_add, Nat.reduceAdd, chunk]; rfl) | rfl))) | (apply fill_fn rfl (Nat.le_of_ble_eq_true rfl); (focus (first | (simp only [Lk.pv, Sd.pv, Hf.pv, List.take_zero, List.take_succ_cons, List.take_nil, List.drop_zero, List.drop_succ_cons, List.drop_nil, List.nil_append, List.cons_append, List.append_nil, List.map_cons, List.map_nil, List.replicate_succ, List.replicate_zero, List.flatten_cons, List.flatten_nil, Nat.zero_add, Nat.reduceAdd, chunk]; rfl) | rfl))) | (apply fill_ptr rfl (Nat.le_of_ble_eq_true rfl); (focus (first | (simp only [Lk.pv, Sd.pv, Hf.pv, List.take_zero, List.take_succ_cons, List.take_nil, List.drop_zero, List.drop_succ_cons, List.drop_nil, List.nil_append, List.cons_append, List.append_nil, List.map_cons, List.map_nil, List.replicate_succ, List.replicate_zero, List.flatten_cons, List.flatten_nil, Nat.zero_add, Nat.reduceAdd, chunk]; rfl) | rfl)))))); (focus rfl); (focus (first | (simp only [Lk.pv, Sd.pv, Hf.pv, List.take_zero, List.take_succ_cons, List.take_nil, List.drop_zero, List.drop_succ_cons, List.drop_nil, List.nil_append, List.cons_append, List.append_nil, List.map_cons, List.map_nil, List.replicate_succ, List.replicate_zero, List.flatten_cons, List.flatten_nil, Nat.zero_add, Nat.reduceAdd, chunk]; rfl) | rfl)))
        | (apply q_mkfn; (focus (repeat' (first | exact mapE_nil | (apply mapE_p; (focus rfl)) | (apply mapE_ptr; (focus rfl)) | (apply mapE_ref; (focus rfl)) | (apply mapE_agg; (focus rfl)) | (apply mapE_fn; (focus rfl)) | (apply mapE_sl; (focus rfl))))))
        )
      · have hdl : l.drop i = l[i] :: l.drop (i + 1) := drop_cons (by omega)
        have hds : s.drop i = s[i] :: s.drop (i + 1) := drop_cons (by omega)
        rw [hdl, hds] at hout0
        simp only [pickF] at hout0
        have hp : pick1 op fi l[i] s[i] = [] := by simp [pick1, *]
        rw [hp, List.nil_append] at hout0
        refine q_loop_normal ⟨i + 1, n', tk, out⟩ ⟨by simp only; omega, by simp only; omega, by simp only; omega, hout0, htk0, fun k hk => by have := htk k hk; exact ⟨this.1, by simp only; omega, this.2.2⟩⟩ (by simp only; omega) ?_
        dsimp only
        refine wk_mk hwf (by omega) (by omega) (by first | trivial | (simp only [keysP, and_true]; omega) | (repeat' (first | exact trivial | refine ⟨by omega, ?_⟩ | refine keys_vecB (fun k hk => by have := htk k hk; omega) ?_))) (blks_vecB (fun k hk => ⟨by have := htk k hk; (repeat (refine get_other (by omega) ?_)); exact get_vecB_self k hk, by have := htk k hk; omega⟩) ⟨⟨(by (repeat (refine get_other (by omega) ?_)); exact get_vecB_out (fun k' hk' => by have := htk k' hk'; omega) get_same), by omega, under_mono (by omega) hu0, under_mono (by omega) hu1, trivial, trivial, trivial, trivial, trivial⟩, trivial⟩) ?_
        simp only [fitsP]
        exact ⟨.same trivial, .same ⟨(show k3 < _ by omega), trivial⟩, wkV_outs (fun k hk => by have := htk k hk; omega), .same trivial, .same trivial, wkV_int (by omega), trivial⟩
      · have hdl : l.drop i = l[i] :: l.drop (i + 1) := drop_cons (by omega)
        have hds : s.drop i = s[i] :: s.drop (i + 1) := drop_cons (by omega)
        rw [hdl, hds] at hout0
        simp only [pickF] at hout0
        have hp : pick1 op fi l[i] s[i] = [(⟨l[i].px, l[i].py, l[i].qx, l[i].qy⟩ : Hf)] := by simp [pick1, *]
        rw [hp] at hout0
        have hout : out.map Hf.pv ++ [Hf.pv (⟨l[i].px, l[i].py, l[i].qx, l[i].qy⟩ : Hf)] = (out ++ [(⟨l[i].px, l[i].py, l[i].qx, l[i].qy⟩ : Hf)]).map Hf.pv := by rw [List.map_append]; rfl
        have hlen' : ((out ++ [(⟨l[i].px, l[i].py, l[i].qx, l[i].qy⟩ : Hf)]).map Hf.pv).length = (out.map Hf.pv).length + 1 := by rw [← hout]; simp
        have hk9' : k9 < n' ∧ S.n ≤ k9 ∧ k3 < k9 := by
          rcases hk9 with ⟨_, h5⟩ | h5
          · omega
          · have := htk _ h5; omega
        refine q_loop_normal ⟨i + 1, n', some k9, out ++ [(⟨l[i].px, l[i].py, l[i].qx, l[i].qy⟩ : Hf)]⟩ ⟨by simp only; omega, by simp only; omega, by simp only [List.length_append, List.length_cons, List.length_nil]; omega, by rw [← hout0]; simp, by simp, ?_⟩ (by simp only; omega) ?_
        · intro k hk
          cases hk
          rcases hk9 with ⟨_, h5⟩ | h5
          · exact ⟨by omega, by simp only; omega, by simp⟩
          · have := htk _ h5; exact ⟨by omega, by simp only; omega, by simp⟩
        · dsimp only
          refine wk_mk hwf (by omega) (by omega) (by first | trivial | (simp only [keysP, and_true]; omega) | (repeat' (first | exact trivial | refine ⟨by omega, ?_⟩ | refine keys_vecB (fun k hk => by have := htk k hk; omega) ?_))) (blks_vecB (fun k hk => by cases hk; exact ⟨by rw [hlen']; exact get_same, hk9'.1⟩) ⟨⟨(by (repeat (refine get_other (by omega) ?_)); exact get_vecB_out (fun k' hk' => by have := htk k' hk'; omega) get_same), by omega, under_mono (by omega) hu0, under_mono (by omega) hu1, trivial, trivial, trivial, trivial, trivial⟩, trivial⟩) ?_
          simp only [fitsP]
          exact ⟨.same trivial, .same ⟨(show k3 < _ by omega), trivial⟩, wkV_out_eq hout hk9'.1, .same trivial, .same trivial, wkV_int (by omega), trivial⟩
      · have hdl : l.drop i = l[i] :: l.drop (i + 1) := drop_cons (by omega)
        have hds : s.drop i = s[i] :: s.drop (i + 1) := drop_cons (by omega)
        rw [hdl, hds] at hout0
        simp only [pickF] at hout0
        have hp : pick1 op fi l[i] s[i] = [(⟨l[i].qx, l[i].qy, l[i].px, l[i].py⟩ : Hf)] := by simp [pick1, *]
        rw [hp] at hout0
        have hout : out.map Hf.pv ++ [Hf.pv (⟨l[i].qx, l[i].qy, l[i].px, l[i].py⟩ : Hf)] = (out ++ [(⟨l[i].qx, l[i].qy, l[i].px, l[i].py⟩ : Hf)]).map Hf.pv := by rw [List.map_append]; rfl
        have hlen' : ((out ++ [(⟨l[i].qx, l[i].qy, l[i].px, l[i].py⟩ : Hf)]).map Hf.pv).length = (out.map Hf.pv).length + 1 := by rw [← hout]; simp
        have hk9' : k9 < n' ∧ S.n ≤ k9 ∧ k3 < k9 := by
          rcases hk9 with ⟨_, h5⟩ | h5
          · omega
          · have := htk _ h5; omega
        refine q_loop_normal ⟨i + 1, n', some k9, out ++ [(⟨l[i].qx, l[i].qy, l[i].px, l[i].py⟩ : Hf)]⟩ ⟨by simp only; omega, by simp only; omega, by simp only [List.length_append, List.length_cons, List.length_nil]; omega, by rw [← hout0]; simp, by simp, ?_⟩ (by simp only; omega) ?_
        · intro k hk
          cases hk
          rcases hk9 with ⟨_, h5⟩ | h5
          · exact ⟨by omega, by simp only; omega, by simp⟩
          · have := htk _ h5; exact ⟨by omega, by simp only; omega, by simp⟩
        · dsimp only
          refine wk_mk hwf (by omega) (by omega) (by first | trivial | (simp only [keysP, and_true]; omega) | (repeat' (first | exact trivial | refine ⟨by omega, ?_⟩ | refine keys_vecB (fun k hk => by have := htk k hk; omega) ?_))) (blks_vecB (fun k hk => by cases hk; exact ⟨by rw [hlen']; exact get_same, hk9'.1⟩) ⟨⟨(by (repeat (refine get_other (by omega) ?_)); exact get_vecB_out (fun k' hk' => by have := htk k' hk'; omega) get_same), by omega, under_mono (by omega) hu0, under_mono (by omega) hu1, trivial, trivial, trivial, trivial, trivial⟩, trivial⟩) ?_
          simp only [fitsP]
          exact ⟨.same trivial, .same ⟨(show k3 < _ by omega), trivial⟩, wkV_out_eq hout hk9'.1, .same trivial, .same trivial, wkV_int (by omega), trivial⟩
      · have hdl : l.drop i = l[i] :: l.drop (i + 1) := drop_cons (by omega)
        have hds : s.drop i = s[i] :: s.drop (i + 1) := drop_cons (by omega)
        rw [hdl, hds] at hout0
        simp only [pickF] at hout0
        have hp : pick1 op fi l[i] s[i] = [] := by simp [pick1, *]
        rw [hp, List.nil_append] at hout0
        refine q_loop_normal ⟨i + 1, n', tk, out⟩ ⟨by simp only; omega, by simp only; omega, by simp only; omega, hout0, htk0, fun k hk => by have := htk k hk; exact ⟨this.1, by simp only; omega, this.2.2⟩⟩ (by simp only; omega) ?_
        dsimp only
        refine wk_mk hwf (by omega) (by omega) (by first | trivial | (simp only [keysP, and_true]; omega) | (repeat' (first | exact trivial | refine ⟨by omega, ?_⟩ | refine keys_vecB (fun k hk => by have := htk k hk; omega) ?_))) (blks_vecB (fun k hk => ⟨by have := htk k hk; (repeat (refine get_other (by omega) ?_)); exact get_vecB_self k hk, by have := htk k hk; omega⟩) ⟨⟨(by (repeat (refine get_other (by omega) ?_)); exact get_vecB_out (fun k' hk' => by have := htk k' hk'; omega) get_same), by omega, under_mono (by omega) hu0, under_mono (by omega) hu1, trivial, trivial, trivial, trivial, trivial⟩, trivial⟩) ?_
        simp only [fitsP]
        exact ⟨.same trivial, .same ⟨(show k3 < _ by omega), trivial⟩, wkV_outs (fun k hk => by have := htk k hk; omega), .same trivial, .same trivial, wkV_int (by omega), trivial⟩
      · have hdl : l.drop i = [] := List.drop_eq_nil_of_le (by omega)
        have hds : s.drop i = [] := List.drop_eq_nil_of_le (by omega)
        rw [hdl, hds] at hout0
        simp only [pickF, List.append_nil] at hout0
        repeat' (first
          | refine q_call (fun S => ASpec.out (specP21 lessH 22 [] callP22 hfP22 out.length S _ out (Nat.le_refl _) (by omega) (fun h => htk0 (by cases tk with | none => rfl | some k => cases h)))) ?_
          | refine q_seq ?_
          | (refine q_reg fun n' hn' => ?_; simp only [List.length_cons, List.length_nil, Nat.zero_add, Nat.reduceAdd] at hn')
          | refine q_mov_p rfl ?_
          | refine q_mov_agg rfl ?_
          | refine q_lss rfl rfl (fun h => ?_) (fun h => ?_)
          | refine q_neq rfl rfl (fun h => ?_) (fun h => ?_)
          | refine q_nil_drawn trivial ?_
          | refine q_nil_drawn (sep1 rfl rfl (by omega) trivial) ?_
          | refine q_nil_drawn (sep1 rfl rfl (by omega) (sep1 rfl rfl (by omega) trivial)) ?_
          | refine q_nil ?_
          | refine q_normal ?_
          | refine q_cond_t rfl ?_
          | refine q_cond_f rfl ?_
          | refine q_block ?_
          | refine q_exit ?_
          | refine q_ret ?_
          | refine q_skip ?_
          | refine q_seq_exit ?_
          | refine q_loop_exit ?_
          | refine q_loop_ret ?_
          | refine q_seq_ret ?_
          | refine q_block_normal ?_
          | refine q_block_ret ?_
          | refine q_block_hit ?_
          | refine q_block_miss rfl ?_
          | refine q_add rfl rfl (wrap64 (by omega)) ?_
          | refine q_eqB rfl rfl rfl ?_
          | (refine q_alloc fun k hk => ?_)
          | (refine q_box_agg rfl fun k hk => ?_)
          | (refine q_box_p rfl fun k hk => ?_)
          | (refine q_box_sl rfl fun k hk => ?_)
          | (refine q_box_fn rfl fun k hk => ?_)
          | refine q_fadr rfl rfl ?_
          | refine q_fadr_ref rfl rfl ?_
          | refine q_mov_ptr rfl ?_
          | refine q_mov_ref rfl ?_
          | refine q_mov_sl rfl ?_
          | refine q_mov_fn rfl ?_
          | refine q_loadA_ref rfl (Nat.le_of_ble_eq_true rfl) (by first | (simp only [Lk.pv, Sd.pv, Hf.pv, List.take_zero, List.take_succ_cons, List.take_nil, List.drop_zero, List.drop_succ_cons, List.drop_nil, List.nil_append, List.cons_append, List.append_nil, List.map_cons, List.map_nil, List.replicate_succ, List.replicate_zero, List.flatten_cons, List.flatten_nil, Nat.zero_add, Nat.reduceAdd, chunk]; rfl) | rfl) ?_
          | refine q_loadA rfl (by repeat (first | exact get_same | refine get_other (by omega) ?_)) (Nat.le_of_ble_eq_true rfl) (by first | (simp only [Lk.pv, Sd.pv, Hf.pv, List.take_zero, List.take_succ_cons, List.take_nil, List.drop_zero, List.drop_succ_cons, List.drop_nil, List.nil_append, List.cons_append, List.append_nil, List.map_cons, List.map_nil, List.replicate_succ, List.replicate_zero, List.flatten_cons, List.flatten_nil, Nat.zero_add, Nat.reduceAdd, chunk]; rfl) | rfl) ?_
          | refine q_store_agg rfl (by repeat (first | exact get_same | refine get_other (by omega) ?_)) rfl rfl (Nat.le_of_ble_eq_true rfl) (by first | (simp only [Lk.pv, Sd.pv, Hf.pv, List.take_zero, List.take_succ_cons, List.take_nil, List.drop_zero, List.drop_succ_cons, List.drop_nil, List.nil_append, List.cons_append, List.append_nil, List.map_cons, List.map_nil, List.replicate_succ, List.replicate_zero, List.flatten_cons, List.flatten_nil, Nat.zero_add, Nat.reduceAdd, chunk]; rfl) | rfl) ?_
          | refine q_store_p rfl (by repeat (first | exact get_same | refine get_other (by omega) ?_)) rfl (Nat.le_of_ble_eq_true rfl) (by first | (simp only [Lk.pv, Sd.pv, Hf.pv, List.take_zero, List.take_succ_cons, List.take_nil, List.drop_zero, List.drop_succ_cons, List.drop_nil, List.nil_append, List.cons_append, List.append_nil, List.map_cons, List.map_nil, List.replicate_succ, List.replicate_zero, List.flatten_cons, List.flatten_nil, Nat.zero_add, Nat.reduceAdd, chunk]; rfl) | rfl) ?_
          | refine q_store_sl rfl (by repeat (first | exact get_same | refine get_other (by omega) ?_)) rfl (Nat.le_of_ble_eq_true rfl) (by first | (simp only [Lk.pv, Sd.pv, Hf.pv, List.take_zero, List.take_succ_cons, List.take_nil, List.drop_zero, List.drop_succ_cons, List.drop_nil, List.nil_append, List.cons_append, List.append_nil, List.map_cons, List.map_nil, List.replicate_succ, List.replicate_zero, List.flatten_cons, List.flatten_nil, Nat.zero_add, Nat.reduceAdd, chunk]; rfl) | rfl) ?_
          | refine q_store_fn rfl (by repeat (first | exact get_same | refine get_other (by omega) ?_)) rfl (Nat.le_of_ble_eq_true rfl) (by first | (simp only [Lk.pv, Sd.pv, Hf.pv, List.take_zero, List.take_succ_cons, List.take_nil, List.drop_zero, List.drop_succ_cons, List.drop_nil, List.nil_append, List.cons_append, List.append_nil, List.map_cons, List.map_nil, List.replicate_succ, List.replicate_zero, List.flatten_cons, List.flatten_nil, Nat.zero_add, Nat.reduceAdd, chunk]; rfl) | rfl) ?_
          | refine q_lenS_map rfl ?_
          | refine q_lenS rfl ?_
          | refine q_nil_drawn trivial ?_
          | (refine q_drawn fun n' hn' => ?_; simp only [List.length_cons, List.length_nil, Nat.zero_add, Nat.reduceAdd] at hn')
          | refine q_iadrS_nat rfl rfl (get_map (by omega)) rfl ?_
          | (apply q_build; (focus (repeat' (first | exact fill_nil | (apply fill_p rfl (Nat.le_of_ble_eq_true rfl); (focus (first | (simp only [Lk.pv, Sd.pv, Hf.pv, List.take_zero, List.take_succ_cons, List.take_nil, List.drop_zero, List.drop_succ_cons, List.drop_nil, List.nil_append, List.cons_append, List.append_nil, List.map_cons, List.map_nil, List.replicate_succ, List.replicate_zero, List.flatten_cons, List.flatten_nil, Nat.zero_add, Nat.reduceAdd, chunk]; rfl) | rfl))) | (apply fill_agg; (focus rfl); (focus rfl); (focus exact Nat.le_of_ble_eq_true rfl); (focus (first | (simp only [Lk.pv, Sd.pv, Hf.pv, List.take_zero, List.take_succ_cons, List.take_nil, List.drop_zero, List.drop_succ_cons, List.drop_nil, List.nil_append, List.cons_append, List.append_nil, List.map_cons, List.map_nil, List.replicate_succ, List.replicate_zero, List.flatten_cons, List.flatten_nil, Nat.zero_add, Nat.reduceAdd, chunk]; rfl) | rfl))) | (apply fill_sl rfl (Nat.le_of_ble_eq_true rfl); (focus (first | (simp only [Lk.pv, Sd.pv, Hf.pv, List.take_zero, List.take_succ_cons, List.take_nil, List.drop_zero, List.drop_succ_cons, List.drop_nil, List.nil_append, List.cons_append, List.append_nil, List.map_cons, List.map_nil, List.replicate_succ, List.replicate_zero, List.flatten_cons, List.flatten_nil, Nat.zero_add, Nat.reduceAdd, chunk]; rfl) | rfl))) | (apply fill_fn rfl (Nat.le_of_ble_eq_true rfl); (focus (first | (simp only [Lk.pv, Sd.pv, Hf.pv, List.take_zero, List.take_succ_cons, List.take_nil, List.drop_zero, List.drop_succ_cons, List.drop_nil, List.nil_append, List.cons_append, List.append_nil, List.map_cons, List.map_nil, List.replicate_succ, List.replicate_zero, List.flatten_cons, List.flatten_nil, Nat.zero_add, Nat.reduceAdd, chunk]; rfl) | rfl))) | (apply fill_ptr rfl (Nat.le_of_ble_eq_true rfl); (focus (first | (simp only [Lk.pv, Sd.pv, Hf.pv, List.take_zero, List.take_succ_cons, List.take_nil, List.drop_zero, List.drop_succ_cons, List.drop_nil, List.nil_append, List.cons_append, List.append_nil, List.map_cons, List.map_nil, List.replicate_succ, List.replicate_zero, List.flatten_cons, List.flatten_nil, Nat.zero_add, Nat.reduceAdd, chunk]; rfl) | rfl)))))))
          | refine q_mov_out rfl ?_
          | refine q_mov_tup rfl ?_
          | (apply q_bslice; (focus (repeat' (first | exact fill_nil | (apply fill_p rfl (Nat.le_of_ble_eq_true rfl); (focus (first | (simp only [Lk.pv, Sd.pv, Hf.pv, List.take_zero, List.take_succ_cons, List.take_nil, List.drop_zero, List.drop_succ_cons, List.drop_nil, List.nil_append, List.cons_append, List.append_nil, List.map_cons, List.map_nil, List.replicate_succ, List.replicate_zero, List.flatten_cons, List.flatten_nil, Nat.zero_add, Nat.reduceAdd, chunk]; rfl) | rfl))) | (apply fill_agg; (focus rfl); (focus rfl); (focus exact Nat.le_of_ble_eq_true rfl); (focus (first | (simp only [Lk.pv, Sd.pv, Hf.pv, List.take_zero, List.take_succ_cons, List.take_nil, List.drop_zero, List.drop_succ_cons, List.drop_nil, List.nil_append, List.cons_append, List.append_nil, List.map_cons, List.map_nil, List.replicate_succ, List.replicate_zero, List.flatten_cons, List.flatten_nil, Nat.zero_add, Nat.reduceAdd, chunk]; rfl) | rfl))) | (apply fill_sl rfl (Nat.le_of_ble_eq_true rfl); (focus (first | (simp only [Lk.pv, Sd.pv, Hf.pv, List.take_zero, List.take_succ_cons, List.take_nil, List.drop_zero, List.drop_succ_cons, List.drop_nil, List.nil_append, List.cons_append, List.append_nil, List.map_cons, List.map_nil, List.replicate_succ, List.replicate_zero, List.flatten_cons, List.flatten_nil, Nat.zero_add, Nat.reduceAdd, chunk]; rfl) | rfl))) | (apply fill_fn rfl (Nat.le_of_ble_eq_true rfl); (focus (first | (simp only [Lk.pv, Sd.pv, Hf.pv, List.take_zero, List.take_succ_cons, List.take_nil, List.drop_zero, List.drop_succ_cons, List.drop_nil, List.nil_append, List.cons_append, List.append_nil, List.map_cons, List.map_nil, List.replicate_succ, List.replicate_zero, List.flatten_cons, List.flatten_nil, Nat.zero_add, Nat.reduceAdd, chunk]; rfl) | rfl))) | (apply fill_ptr rfl (Nat.le_of_ble_eq_true rfl); (focus (first | (simp only [Lk.pv, Sd.pv, Hf.pv, List.take_zero, List.take_succ_cons, List.take_nil, List.drop_zero, List.drop_succ_cons, List.drop_nil, List.nil_append, List.cons_append, List.append_nil, List.map_cons, List.map_nil, List.replicate_succ, List.replicate_zero, List.flatten_cons, List.flatten_nil, Nat.zero_add, Nat.reduceAdd, chunk]; rfl) | rfl)))))); (focus rfl); (focus (first | (simp only [Lk.pv, Sd.pv, Hf.pv, List.take_zero, List.take_succ_cons, List.take_nil, List.drop_zero, List.drop_succ_cons, List.drop_nil, List.nil_append, List.cons_append, List.append_nil, List.map_cons, List.map_nil, List.replicate_succ, List.replicate_zero, List.flatten_cons, List.flatten_nil, Nat.zero_add, Nat.reduceAdd, chunk]; rfl) | rfl)))
          | (apply q_mkfn; (focus (repeat' (first | exact mapE_nil | (apply mapE_p; (focus rfl)) | (apply mapE_ptr; (focus rfl)) | (apply mapE_ref; (focus rfl)) | (apply mapE_agg; (focus rfl)) | (apply mapE_fn; (focus rfl)) | (apply mapE_sl; (focus rfl))))))
          )
        have e : pickL op fi l s = sortL out := by rw [pickL, if_pos hls, ← hout0]
        rw [e]
        refine q_fin hwf (res_cons (res_tmp_p rfl) res_nil) (slOf_flag ?_) trivial (by first | trivial | (simp only [keysP, and_true]; omega) | (repeat' (first | exact trivial | refine ⟨by omega, ?_⟩ | refine keys_vecB (fun k hk => by have := htk k hk; omega) ?_))) (by omega)
        rw [← sortL]
        have hsl : (sortL out).length = out.length := sortF_len _ _
        cases tk with
        | none =>
          have := htk0 rfl
          subst this
          rfl
        | some k =>
          have := (htk k rfl).2.2
          cases hso : sortL out with
          | nil => rw [hso] at hsl; exact absurd (List.eq_nil_of_length_eq_zero hsl.symm) this
          | cons a b => simp
end Go.Proofs.Ytakjakmhecfmiaa

