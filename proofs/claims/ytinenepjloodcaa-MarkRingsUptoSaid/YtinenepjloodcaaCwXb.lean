/- ENTRY: what the reader of a claim reads, with how much it holds. -/
import Derived.Test.YtinenepjloodcaaCwY
set_option linter.unusedVariables false
set_option linter.unusedSimpArgs false
namespace Go.Cw
open Go.ChangeShapes Go.RowKit

mutual
def PV.sz : PV → Nat
  | .sl _ xs => szLL xs + 1
  | .bool _ => 1
  | .int _ _ => 1
  | .str _ => 1
def szL : List PV → Nat
  | [] => 0
  | c :: cs => c.sz + szL cs
def szLL : List (List PV) → Nat
  | [] => 0
  | r :: rs => szL r + szLL rs
end
theorem szL_append (a b : List PV) : szL (a ++ b) = szL a + szL b := by
  induction a with
  | nil => simp [szL]
  | cons x a ih => simp only [List.cons_append, szL, ih]; omega

section
variable {H : Type} {enc : TypeId × Value → H} {P : Program} {w : World} {base : Nat} {spare : Nat → Bool} {held : Bool}

/-- A measure of readings. -/
structure Bulk (β : DataW H → Nat) : Prop where
  one : ∀ d, 1 ≤ β d
  sl : ∀ e s, (e.map β).sum + 1 ≤ β (.slice e s)
  agg : ∀ ps, (ps.map β).sum ≤ β (.agg ps)

variable {β : DataW H → Nat}

theorem szLL_sum : ∀ (xs : List (List PV)) (es : List (DataW H × List MemPlace)), xs.length = es.length → (∀ (i : Nat) y e, xs[i]? = some y → es[i]? = some e → szL y ≤ β e.1) → szLL xs ≤ ((es.map (·.1)).map β).sum
  | [], _, _, _ => by simp [szLL]
  | x :: xs, [], h, _ => by simp at h
  | x :: xs, e :: es, h, hh => by
    have h1 := szLL_sum xs es (by simpa using h) (fun i y e' h1 h2 => hh (i + 1) y e' (by simpa using h1) (by simpa using h2))
    have h2 := hh 0 x e rfl rfl
    simp only [szLL, List.map_cons, List.sum_cons]
    omega

theorem flatFs_trodB {g : TypeId → Option (List Lf)} (hg : ∀ t lf, g t = some lf → ∀ (fuel : Nat) (cs : List Value) (x : DataW H × List MemPlace), DataW.trod enc P w base spare held fuel t cs = some x → ∃ pvs, fitsRow lf pvs ∧ RowRep w pvs cs ∧ szL pvs ≤ β x.1) {n : Nat} {cs : List Value} :
    ∀ (fs : List Field) (ys : List (DataW H × List MemPlace)) (off : Nat) (lf : List Lf), flatFs P g fs off = some lf → off + lf.length ≤ cs.length → fs.length = ys.length → (∀ (i : Nat) f, fs[i]? = some f → DataW.trod enc P w base spare held n f.type ((cs.drop f.offset).take (P.cellsOf f.type)) = ys[i]?) →
      ∃ pvs, fitsRow lf pvs ∧ RowRep w pvs ((cs.drop off).take lf.length) ∧ szL pvs ≤ ((ys.map (·.1)).map β).sum
  | [], ys, off, lf, h, hl, _, _ => by
    simp only [flatFs, Option.some.injEq] at h
    subst h
    exact ⟨[], by rw [fitsRow], ⟨rfl, fun i c v h => by simp at h⟩, by simp [szL]⟩
  | f :: fs, [], off, lf, h, hl, hlen, _ => by simp at hlen
  | f :: fs, y :: ys, off, lf, h, hl, hlen, hf => by
    simp only [flatFs] at h
    split at h
    · rename_i es hes
      split at h
      · rename_i hoff
        simp only [Option.map_eq_some_iff] at h
        obtain ⟨lf', h1, rfl⟩ := h
        simp only [List.length_append] at hl
        have hx := hf 0 f rfl
        simp only [List.getElem?_cons_zero] at hx
        obtain ⟨p1, q1, r1, b1⟩ := hg _ _ hes n _ y hx
        obtain ⟨p2, q2, r2, b2⟩ := flatFs_trodB (n := n) (cs := cs) hg fs ys (off + es.length) lf' h1 (by omega) (by simpa using hlen) (fun i f' hf' => by have := hf (i + 1) f' (by simpa using hf'); simpa using this)
        refine ⟨p1 ++ p2, fitsRow_append q1 q2, ?_, ?_⟩
        · have : (cs.drop off).take (es ++ lf').length = (cs.drop f.offset).take (P.cellsOf f.type) ++ (cs.drop (off + es.length)).take lf'.length := by
            rw [hoff.1, ← hoff.2, List.length_append, List.take_add, List.drop_drop]
          rw [this]
          exact r1.append r2
        · rw [szL_append]
          simp only [List.map_cons, List.sum_cons]
          omega
      · cases h
    · cases h

theorem flat_trodB (hβ : Bulk β) :
    ∀ (n : Nat) (t : TypeId) (lf : List Lf), flatT P n t = some lf → ∀ (fuel : Nat) (cs : List Value) (x : DataW H × List MemPlace), DataW.trod enc P w base spare held fuel t cs = some x → ∃ pvs, fitsRow lf pvs ∧ RowRep w pvs cs ∧ szL pvs ≤ β x.1
  | 0, t, lf, h, _, _, _, _ => by simp [flatT] at h
  | n + 1, t, lf, h, fuel, cs, x, hx => by
    unfold flatT at h
    split at h
    · rename_i ht
      simp only [Option.some.injEq] at h
      subst h
      obtain ⟨b, rfl, _⟩ := DataW.trod_bool ht hx
      exact ⟨[.bool b], by rw [fitsRow]; exact ⟨_, _, rfl, by rw [fitsLf]; exact ⟨b, rfl⟩, by rw [fitsRow]⟩, RowRep.one (.bool b), by have := hβ.one x.1; simp only [szL, PV.sz]; omega⟩
    · rename_i k ht
      simp only [Option.some.injEq] at h
      subst h
      obtain ⟨m, rfl, _, hw⟩ := DataW.trod_int ht hx
      exact ⟨[.int k m], by rw [fitsRow]; exact ⟨_, _, rfl, by rw [fitsLf]; exact ⟨m, rfl, hw⟩, by rw [fitsRow]⟩, RowRep.one (.int k m), by have := hβ.one x.1; simp only [szL, PV.sz]; omega⟩
    · rename_i e ht
      split at h
      · rename_i es hes
        split at h
        · rename_i hlen
          simp only [Option.some.injEq] at h
          subst h
          rcases DataW.trod_slice ht hx with ⟨rfl, _⟩ | ⟨a, len, cap, elems, rest, m, _, rfl, hxe, hb, hl, hm, hlen', hel, _, _⟩
          · exact ⟨[.sl true []], by rw [fitsRow]; exact ⟨_, _, rfl, by rw [fitsLf]; exact .inl rfl, by rw [fitsRow]⟩, RowRep.one .nil, by have := hβ.one x.1; simp only [szL, PV.sz, szLL]; omega⟩
          · have hsl := hβ.sl (elems.map (·.1)) (rest.map (·.1))
            rw [show (DataW.slice (elems.map (·.1)) (rest.map (·.1))) = x.1 by rw [hxe]] at hsl
            obtain ⟨b, off, sp⟩ := a
            rcases Nat.eq_zero_or_pos len with h0 | h0
            · subst h0
              refine ⟨[.sl false []], ?_, RowRep.one (repP_emp _ _), by have := hβ.one x.1; simp only [szL, PV.sz, szLL]; omega⟩
              rw [fitsRow]
              refine ⟨_, _, rfl, ?_, by rw [fitsRow]⟩
              rw [fitsLf]
              exact .inr ⟨[], rfl, by simp, fun z hz => by simp at hz⟩
            have hspot : sp = none := by
              have h1 := hel 0 h0
              have h2 : elems[0]? = some (elems[0]'(by omega)) := by simp [show 0 < elems.length by omega]
              rw [h2, Option.bind_eq_some_iff] at h1
              obtain ⟨ci, hci, _⟩ := h1
              have h3 := (World.cells?_some hci).2.2 0 (by omega)
              simp only [Nat.zero_mul, Addr.add, if_true] at h3
              have hcl : 0 < ci.length := by rw [(World.cells?_some hci).2.1]; omega
              rw [show ci[0]? = some ci[0] by simp [hcl]] at h3
              unfold World.cell? at h3
              split at h3
              · cases sp with
                | none => rfl
                | some s => simp at h3
              · cases h3
            subst hspot
            have each : ∀ i, i < len → ∃ y : List PV, fitsRow es y ∧ (∀ e', elems[i]? = some e' → szL y ≤ β e'.1) ∧ ∃ ci, w.cells? base ((⟨b, off, none⟩ : Addr).add (i * P.cellsOf e)) (P.cellsOf e) = some ci ∧ RowRep w y ci := by
              intro i hi
              have h1 := hel i hi
              have h2 : elems[i]? = some (elems[i]'(by omega)) := by simp [show i < elems.length by omega]
              rw [h2, Option.bind_eq_some_iff] at h1
              obtain ⟨ci, hci, htr⟩ := h1
              obtain ⟨y, hy1, hy2, hy3⟩ := flat_trodB hβ n e es hes m ci _ htr
              exact ⟨y, hy1, fun e' he' => by rw [h2] at he'; cases he'; exact hy3, ci, hci, hy2⟩
            obtain ⟨xs, hx1, hx2⟩ := exists_list len each
            have hwd : ∀ (i : Nat) z, xs[i]? = some z → z.length = P.cellsOf e := fun i z hz => by rw [fitsRow_length (hx2 i z hz).1, hlen.1]
            have hcell : ∀ (i : Nat) z (j : Nat) c, xs[i]? = some z → z[j]? = some c → ∃ v, w.cell? ⟨b, off + (i * P.cellsOf e + j), none⟩ = some v ∧ RepP (G0 w).cls w c v := by
              intro i z j c hz hc
              obtain ⟨_, _, ci, hci, hr⟩ := hx2 i z hz
              have hj : j < ci.length := by rw [← hr.1]; exact (List.getElem?_eq_some_iff.1 hc).1
              have hjl : j < P.cellsOf e := by rw [← (World.cells?_some hci).2.1]; exact hj
              have h3 := (World.cells?_some hci).2.2 j hjl
              rw [add_none, add_none] at h3
              refine ⟨ci[j], by rw [← Nat.add_assoc, h3]; simp [hj], hr.2 j c _ hc (by simp [hj])⟩
            refine ⟨[.sl false xs], ?_, RowRep.one ?_, ?_⟩
            · rw [fitsRow]
              refine ⟨_, _, rfl, ?_, by rw [fitsRow]⟩
              rw [fitsLf]
              refine .inr ⟨xs, rfl, by omega, fun z hz => ?_⟩
              obtain ⟨i, hi⟩ := List.getElem?_of_mem hz
              exact (hx2 i z hi).1
            · have := RepP.sl (cls := (G0 w).cls) (w := w) b off cap (P.cellsOf e) xs (fun j => (w.cell? ⟨b, off + j, none⟩).getD undef) none (fun _ => rfl) (by omega) hwd (fun i z j c hz hc => by
                obtain ⟨v, h1, _⟩ := hcell i z j c hz hc
                exact ⟨by simp [G0, h1], by rw [h1]; rfl⟩) (fun i z j c hz hc => by
                obtain ⟨v, h1, h2⟩ := hcell i z j c hz hc
                simp only [h1, Option.getD_some]
                exact h2)
              rw [hx1] at this
              exact this
            · have := szLL_sum (β := β) xs elems (by omega) (fun i y e' h1 h2 => (hx2 i y h1).2.1 e' h2)
              simp only [szL, PV.sz]
              omega
        · cases h
      · cases h
    · rename_i fs ht
      split at h
      · rename_i es hes
        split at h
        · rename_i hlen
          simp only [Option.some.injEq] at h
          subst h
          obtain ⟨xs, m, _, hxe, hl, hxl, hf⟩ := DataW.trod_struct ht hx
          obtain ⟨pvs, q1, q2, q3⟩ := flatFs_trodB (β := β) (n := m) (cs := cs) (fun t lf h fuel cs x hx => flat_trodB hβ n t lf h fuel cs x hx) fs.toList xs 0 es hes (by omega) (by simp [hxl]) (fun i f hi => hf i f (by simpa using hi))
          refine ⟨pvs, q1, ?_, ?_⟩
          · rw [List.drop_zero, hlen, ← hl, List.take_length] at q2
            exact q2
          · have := hβ.agg (xs.map (·.1))
            rw [show (DataW.agg (xs.map (·.1))) = x.1 by rw [hxe]] at this
            omega
        · cases h
      · cases h
    · rename_i m e ht
      split at h
      · rename_i es hes
        split at h
        · rename_i hlen
          simp only [Option.some.injEq] at h
          subst h
          obtain ⟨xs, m', _, hxe, hl, hxl, hf⟩ := DataW.trod_array ht hx
          have each : ∀ j, j ≤ m → ∃ pvs, fitsRow (List.replicate j es).flatten pvs ∧ RowRep w pvs (cs.take (j * es.length)) ∧ szL pvs ≤ (((xs.take j).map (·.1)).map β).sum := by
            intro j
            induction j with
            | zero => intro _; exact ⟨[], by simp [fitsRow], ⟨by simp, fun i c v h => by simp at h⟩, by simp [szL]⟩
            | succ j ih =>
              intro hj
              obtain ⟨p1, q1, r1, b1⟩ := ih (by omega)
              have h1 := hf j (by omega)
              have h2 : xs[j]? = some (xs[j]'(by omega)) := by simp [show j < xs.length by omega]
              rw [h2] at h1
              obtain ⟨p2, q2, r2, b2⟩ := flat_trodB hβ n e es hes m' _ _ h1
              refine ⟨p1 ++ p2, ?_, ?_, ?_⟩
              · rw [List.replicate_succ', List.flatten_append]
                simpa using fitsRow_append q1 q2
              · rw [Nat.succ_mul, List.take_add]
                rw [← hlen.1] at r2
                exact r1.append r2
              · rw [szL_append, List.take_succ_eq_append_getElem (by omega)]
                simp only [List.map_append, List.map_cons, List.map_nil, List.sum_append, List.sum_cons, List.sum_nil]
                omega
          obtain ⟨pvs, q1, q2, q3⟩ := each m (Nat.le_refl _)
          refine ⟨pvs, q1, ?_, ?_⟩
          · rw [hlen.2, ← hl, List.take_length] at q2
            exact q2
          · have := hβ.agg (xs.map (·.1))
            rw [show (DataW.agg (xs.map (·.1))) = x.1 by rw [hxe]] at this
            rw [List.take_of_length_le (by omega)] at q3
            omega
        · cases h
      · cases h
    · cases h

theorem arg_repB (hβ : Bulk β) {n : Nat} {t : TypeId} {lf : List Lf} (hf : flatT P n t = some lf)
    {v : Value} {d : DataW H} {p : List MemPlace} (h : DataW.Trod enc P w base spare held t v d p) : ∃ pvs, fitsRow lf pvs ∧ RowRep w pvs v.cells.toList ∧ szL pvs ≤ β d := by
  obtain ⟨fuel, h⟩ := h
  exact flat_trodB hβ n t lf hf fuel _ _ h
end
end Go.Cw
