/- ENTRY: a statement that holds whatever the input. -/
import Derived.Test.YtinenepjloodcaaCwX
import Derived.Carry
set_option linter.unusedVariables false
set_option linter.unusedSimpArgs false
namespace Go.Cw
open Go.ChangeShapes Go.RowKit

theorem cell_spot {P : Program} {w : World} {base : Nat} {u : TypeId} {a : Addr} {len cap : Nat} (h : Cell.okWide P w .any base u (.slice (some a) len cap)) : a.spot = none := by
  unfold Cell.okWide at h
  split at h <;> first | (rename_i e; cases e; done) | skip
  all_goals try (rename_i e1 e2; cases e2; done)
  unfold Cell.ok at h
  split at h
  all_goals first
    | exact h.elim
    | (rename_i e1 e2; cases e2; exact h.2.2.2.1)
    | (rename_i e1 e2; cases e2)
    | skip

theorem okWide_spot {P : Program} {w : World} {base : Nat} {t : TypeId} {v : Value} (h : Value.okWide P w .any base t v) : spotOk v.cells.toList := by
  intro a len cap hm
  unfold Value.okWide at h
  split at h
  · obtain ⟨cs, rfl, _, _, _, _, hc⟩ := h
    obtain ⟨i, hi⟩ := List.getElem?_of_mem hm
    obtain ⟨u, _, hu⟩ := hc i _ (by simpa [Value.cells] using hi)
    exact cell_spot hu
  · obtain ⟨cs, rfl, _, _, _, _, hc⟩ := h
    obtain ⟨i, hi⟩ := List.getElem?_of_mem hm
    obtain ⟨u, _, hu⟩ := hc i _ (by simpa [Value.cells] using hi)
    exact cell_spot hu
  · cases v with
    | agg cs =>
      exfalso
      unfold Cell.okWide at h
      split at h <;> first | (rename_i e; cases e; done) | skip
      all_goals try (rename_i e1 e2; cases e2; done)
      unfold Cell.ok at h
      split at h
      all_goals first
        | exact h
        | (rename_i e1 e2; cases e2)
    | slice b l c =>
      simp [Value.cells] at hm
      obtain ⟨rfl, rfl, rfl⟩ := hm
      exact cell_spot h
    | _ => simp [Value.cells] at hm

section
variable {H : Type} {enc : TypeId × Value → H} {P : Program}

theorem arg_rep {nst : Bool} {w : World} {base b0 : Nat} {spare : Nat → Bool} {held : Bool} (hsp : nst = true → ∀ b o a len cap, w.cell? ⟨b, o, none⟩ = some (.slice (some a) len cap) → a.spot = none) {n : Nat} {t : TypeId} {lf : List Lf} (hf : flatT P nst n t = some lf)
    {v : Value} {d : DataW H} {p : List MemPlace} (h : DataW.Trod enc P w base spare held t v d p) (hv : Value.okWide P w .any b0 t v) : ∃ pvs, fitsRow lf pvs ∧ RowRep w pvs v.cells.toList := by
  obtain ⟨fuel, h⟩ := h
  exact flat_trod hsp n t lf hf fuel _ _ h fun _ => okWide_spot hv

theorem trodAll_carry (hl : laidOutB P = true) {W W' : World} (hb : Below W.heap.size W W') : ∀ {ts : List TypeId} {vs : List Value} {ds : List (DataW H)} {ps : List MemPlace}, (∀ t ∈ ts, P.readableRec t = true ∧ t < P.types.size) →
    (∀ x ∈ ps, x.block < W.heap.size) → DataW.TrodAll enc P W 0 (fun _ => true) true ts vs ds ps → DataW.TrodAll enc P W' 0 (fun b => decide (b < W.heap.size)) true ts vs ds ps
  | [], _, _, _, _, _, h => by
    obtain ⟨rfl, rfl, rfl⟩ := trodAll_nil h
    rfl
  | t :: ts, _, _, _, ht, hlt, h => by
    obtain ⟨v, vs, d, ds, a, b, rfl, rfl, rfl, h1, h2⟩ := trodAll_cons h
    exact ⟨a, b, Below.trod hl (ht t (by simp)).1 (ht t (by simp)).2 h1 hb (fun x hx => hlt x (by simp [hx])), trodAll_carry hl hb (fun t' h' => ht t' (by simp [h'])) (fun x hx => hlt x (by simp [hx])) h2, rfl⟩

theorem post_true (hl : laidOutB P = true) {f : Func} {s : ChangeSpec} {W W' : World} {args : Array Value} {ds gs : List (DataW H)} {before : List MemPlace} {tb : TypeId} (hW : DataW.Whole enc P f.params.toList s.vars false W args.toList ds gs before) (hvars : s.vars = []) (hb : Below W.heap.size W W')
    (ht : ∀ t ∈ f.params.toList, P.readableRec t = true ∧ t < P.types.size) (hr : f.resultTypes = #[tb]) (hbool : P.underlying tb = some .bool) (hfn : s.fn H (ds ++ gs) = { results := [.lit (.bool true)], args := ds }) : s.post enc P f false true false false W args (.bool true) W' := by
  have hlt := hW.lt
  have hW' := hW
  obtain ⟨p, q, h1, h2, rfl, h3, h4⟩ := hW
  rw [hvars] at h2
  obtain ⟨rfl, rfl⟩ : gs = [] ∧ q = [] := by
    cases gs with
    | nil => exact ⟨rfl, h2⟩
    | cons g gs => exact h2.elim
  refine ⟨ds, [], _, [], p, [], hW', ?_, ?_, ?_, hb.frame _, fun h => by cases h⟩
  · rw [hfn, hr]
    exact trodAll_mk1 (shut_bool hbool true)
  · rw [hfn]
    exact trodAll_carry hl hb ht (fun x hx => hlt x (by simp [hx])) h1
  · rw [hfn, hvars]
    rfl
end
end Go.Cw
