/- ENTRY: a statement that holds whatever the input. -/
import Derived.Test.YtinenepjloodcaaCwX
import Derived.Carry
set_option linter.unusedVariables false
set_option linter.unusedSimpArgs false
namespace Go.Cw
open Go.ChangeShapes Go.RowKit

theorem cells_one {P : Program} {w : World} {r : Reach} {base : Nat} {t : TypeId} {v : Value} (h : Value.okWide P w r base t v) (ht : isAggT P t = some false) : v.cells.toList = [v] := by
  cases v with
  | agg cs =>
    exfalso
    unfold Value.okWide at h
    unfold isAggT at ht
    split at h
    · rename_i e; rw [e] at ht; cases ht
    · rename_i e; rw [e] at ht; cases ht
    · unfold Cell.okWide at h
      split at h <;> first | (rename_i e; cases e; done) | skip
      all_goals try (rename_i e1 e2; cases e2; done)
      unfold Cell.ok at h
      split at h
      all_goals first
        | exact h
        | (rename_i e1 e2; cases e2)
  | _ => rfl

theorem row_one {w : World} {l : Lf} {pvs : List PV} {v : Value} (h1 : fitsRow [l] pvs) (h2 : RowRep w pvs [v]) : ∃ c, fitsLf l c ∧ RepP (G0 w).cls w c v := by
  rw [fitsRow] at h1
  obtain ⟨c, cs, rfl, h3, h4⟩ := h1
  exact ⟨c, h3, h2.2 0 c v rfl rfl⟩

theorem rep_aggArg {P : Program} {w : World} {r : Reach} {base : Nat} {t : TypeId} {v : Value} {pvs : List PV} (h : Value.okWide P w r base t v) (ht : isAggT P t = some true) (hr : RowRep w pvs v.cells.toList) : Rep (G0 w) w (.agg (pvs.map .p)) v := by
  have hv : ∃ cs, v = .agg cs := by
    unfold Value.okWide at h
    unfold isAggT at ht
    split at h
    · obtain ⟨cs, rfl, _⟩ := h; exact ⟨cs, rfl⟩
    · obtain ⟨cs, rfl, _⟩ := h; exact ⟨cs, rfl⟩
    · rename_i h1 h2
      split at ht
      · rename_i fs e; exact absurd e (h1 fs)
      · rename_i n e' e; exact absurd e (h2 n e')
      · cases ht
      · cases ht
  obtain ⟨cs, rfl⟩ := hv
  have hr' : RowRep w pvs cs.toList := hr
  refine Rep.agg (vs := cs.toList) (by simp [hr'.1]) (fun i c u hc hu => ?_) (fun u hu => ?_)
  · simp only [List.getElem?_map, Option.map_eq_some_iff] at hc
    obtain ⟨c', hc', rfl⟩ := hc
    exact .p (hr'.2 i c' u hc' hu)
  · obtain ⟨i, hi⟩ := List.getElem?_of_mem hu
    have hl : i < pvs.length := by rw [hr'.1]; exact (List.getElem?_eq_some_iff.1 hi).1
    exact (hr'.2 i pvs[i] u (by simp [hl]) hi).oneCell

section
variable {H : Type} {enc : TypeId × Value → H} {P : Program}

theorem arg_rep {w : World} {base : Nat} {spare : Nat → Bool} {held : Bool} {n : Nat} {t : TypeId} {lf : List Lf} (hf : flatT P n t = some lf)
    {v : Value} {d : DataW H} {p : List MemPlace} (h : DataW.Trod enc P w base spare held t v d p) : ∃ pvs, fitsRow lf pvs ∧ RowRep w pvs v.cells.toList := by
  obtain ⟨fuel, h⟩ := h
  exact flat_trod n t lf hf fuel _ _ h

theorem trodAll_carry (hl : laidOutB P = true) {W W' : World} (hb : Below W.heap.size W W') : ∀ {ts : List TypeId} {vs : List Value} {ds : List (DataW H)} {ps : List MemPlace}, (∀ t ∈ ts, P.readableRec t = true ∧ t < P.types.size) →
    (∀ x ∈ ps, x.block < W.heap.size) → DataW.TrodAll enc P W 0 (fun _ => true) true ts vs ds ps → DataW.TrodAll enc P W' 0 (fun b => decide (b < W.heap.size)) true ts vs ds ps
  | [], _, _, _, _, _, h => by
    obtain ⟨rfl, rfl, rfl⟩ := trodAll_nil h
    rfl
  | t :: ts, _, _, _, ht, hlt, h => by
    obtain ⟨v, vs, d, ds, a, b, rfl, rfl, rfl, h1, h2⟩ := trodAll_cons h
    exact ⟨a, b, Below.trod hl (ht t (by simp)).1 (ht t (by simp)).2 h1 hb (fun x hx => hlt x (by simp [hx])), trodAll_carry hl hb (fun t' h' => ht t' (by simp [h'])) (fun x hx => hlt x (by simp [hx])) h2, rfl⟩

theorem post_true (hl : laidOutB P = true) {f : Func} {s : ChangeSpec} {W W' : World} {args : Array Value} {ds gs : List (DataW H)} {before : List MemPlace} {tb : TypeId} (hW : DataW.Whole enc P f.params.toList s.vars false W args.toList ds gs before) (hvars : s.vars = []) (hb : Below W.heap.size W W')
    (ht : ∀ t ∈ f.params.toList, P.readableRec t = true ∧ t < P.types.size) (hr : f.resultTypes = #[tb]) (hbool : P.underlying tb = some .bool) (hfn : s.fn H (ds ++ gs) = { results := [.lit (.bool true)], args := ds }) : s.post enc P f false true false false W args (.bool true) W' := by
  have hlt := hW.lt
  have hW' := hW
  obtain ⟨p, q, h1, h2, rfl, h3, h4⟩ := hW
  rw [hvars] at h2
  obtain ⟨rfl, rfl⟩ : gs = [] ∧ q = [] := by
    cases gs with
    | nil => exact ⟨rfl, h2⟩
    | cons g gs => exact h2.elim
  refine ⟨ds, [], _, [], p, [], hW', ?_, ?_, ?_, hb.frame _, fun h => by cases h⟩
  · rw [hfn, hr]
    exact trodAll_mk1 (shut_bool hbool true)
  · rw [hfn]
    exact trodAll_carry hl hb ht (fun x hx => hlt x (by simp [hx])) h1
  · rw [hfn, hvars]
    rfl
end
end Go.Cw
