/- ENTRY: what the reader of a claim reads is what an abstract value stands for. -/
import Derived.Test.YtinenepjloodcaaCwR
import Derived.ProofKit
import Derived.OpenShut
set_option linter.unusedVariables false
set_option linter.unusedSimpArgs false
namespace Go.Cw
open Go.ChangeShapes Go.RowKit

/-- What a cell of plain data may be. -/
inductive Lf where
  | int (k : IntKind)
  | bool
  | sl (es : List Lf)

mutual
def fitsLf : Lf → PV → Prop
  | .int k, c => ∃ n, c = .int k n ∧ (Lit.int k n).wf = true
  | .bool, c => ∃ b, c = .bool b
  | .sl es, c => c = .sl true [] ∨ ∃ xs, c = .sl false xs ∧ xs.length ≤ maxLen ∧ ∀ x ∈ xs, fitsRow es x
def fitsRow : List Lf → List PV → Prop
  | [], ds => ds = []
  | l :: ls, ds => ∃ c cs, ds = c :: cs ∧ fitsLf l c ∧ fitsRow ls cs
end

theorem fitsRow_length : ∀ {lf : List Lf} {ds : List PV}, fitsRow lf ds → ds.length = lf.length
  | [], ds, h => by rw [fitsRow] at h; rw [h]; rfl
  | l :: ls, ds, h => by
    rw [fitsRow] at h
    obtain ⟨c, cs, rfl, _, h⟩ := h
    simp [fitsRow_length h]

theorem fitsRow_append : ∀ {lf lf' : List Lf} {ds ds' : List PV}, fitsRow lf ds → fitsRow lf' ds' → fitsRow (lf ++ lf') (ds ++ ds')
  | [], lf', ds, ds', h, h' => by rw [fitsRow] at h; rw [h]; exact h'
  | l :: ls, lf', ds, ds', h, h' => by
    rw [fitsRow] at h
    obtain ⟨c, cs, rfl, h1, h⟩ := h
    rw [List.cons_append, fitsRow]
    exact ⟨c, cs ++ ds', rfl, h1, fitsRow_append h h'⟩

def flatFs (P : Program) (g : TypeId → Option (List Lf)) : List Field → Nat → Option (List Lf)
  | [], _ => some []
  | f :: fs, off => match g f.type with
    | some es => if f.offset = off ∧ es.length = P.cellsOf f.type then (flatFs P g fs (off + es.length)).map (es ++ ·) else none
    | none => none

def isSl : Lf → Bool
  | .sl _ => true
  | _ => false

def flatT (P : Program) : Nat → TypeId → Option (List Lf)
  | 0, _ => none
  | n + 1, t => match P.underlying t with
    | some .bool => some [.bool]
    | some (.int k) => some [.int k]
    | some (.slice e) => match flatT P n e with
      | some es => if es.length = P.cellsOf e ∧ 0 < es.length then some [.sl es] else none
      | none => none
    | some (.struct fs) => match flatFs P (flatT P n) fs.toList 0 with
      | some es => if es.length = P.cellsOf t then some es else none
      | none => none
    | some (.array m e) => match flatT P n e with
      | some es => if es.length = P.cellsOf e ∧ m * es.length = P.cellsOf t then some (List.replicate m es).flatten else none
      | none => none
    | _ => none

/-- The marks when a call from outside begins: all that is there is settled. -/
def G0 (w : World) : Gh := ⟨fun _ => false, fun b o => if (w.cell? ⟨b, o, none⟩).isSome then .settled else .free, fun _ => 0, fun _ => ⟨none, 0, 0, 0⟩⟩
def St0 : St := ⟨0, fun _ => none⟩

theorem sim0 (w : World) : Sim (G0 w) St0 w := by
  refine ⟨⟨fun k b h => (by cases h), fun k h => (by cases h), fun b o h => ?_, fun b o h => ?_⟩, fun b o k h => ?_⟩
  · simp only [G0] at h
    split at h
    · assumption
    · cases h
  · have : w.cell? ⟨b, o, none⟩ = none := by simp [World.cell?, Array.getElem?_eq_none h]
    simp [G0, this]
  · simp only [G0] at h
    split at h <;> cases h

theorem below0 {w w' : World} {G' : Gh} {S' : St} (h : Ext (G0 w) St0 w G' S' w') : Below w.heap.size w w' :=
  ⟨h.os, h.tape, h.output, h.size, fun k hk => h.kept k hk fun _ _ _ => rfl⟩

def RowRep (w : World) (pvs : List PV) (cs : List Value) : Prop := pvs.length = cs.length ∧ ∀ (i : Nat) c v, pvs[i]? = some c → cs[i]? = some v → RepP (G0 w).cls w c v

theorem RowRep.one {w : World} {c : PV} {v : Value} (h : RepP (G0 w).cls w c v) : RowRep w [c] [v] := by
  refine ⟨rfl, fun i c' v' h1 h2 => ?_⟩
  cases i with
  | zero => simp at h1 h2; subst h1; subst h2; exact h
  | succ i => simp at h1

theorem RowRep.append {w : World} {a b : List PV} {c d : List Value} (h : RowRep w a c) (k : RowRep w b d) : RowRep w (a ++ b) (c ++ d) := by
  refine ⟨by simp [h.1, k.1], fun i x v h1 h2 => ?_⟩
  by_cases hi : i < a.length
  · rw [List.getElem?_append_left hi] at h1
    rw [List.getElem?_append_left (by rw [← h.1]; exact hi)] at h2
    exact h.2 i x v h1 h2
  · rw [List.getElem?_append_right (by omega)] at h1
    rw [List.getElem?_append_right (by rw [← h.1]; omega), ← h.1] at h2
    exact k.2 _ x v h1 h2

theorem exists_list {α : Type} {Q : Nat → α → Prop} : ∀ (n : Nat), (∀ i, i < n → ∃ y, Q i y) → ∃ xs : List α, xs.length = n ∧ ∀ (i : Nat) y, xs[i]? = some y → Q i y
  | 0, _ => ⟨[], rfl, fun i y h => by simp at h⟩
  | n + 1, h => by
    obtain ⟨xs, h1, h2⟩ := exists_list n (fun i hi => h i (by omega))
    obtain ⟨y, hy⟩ := h n (by omega)
    refine ⟨xs ++ [y], by simp [h1], fun i z hz => ?_⟩
    by_cases hi : i < n
    · rw [List.getElem?_append_left (by omega)] at hz; exact h2 i z hz
    · rw [List.getElem?_append_right (by omega)] at hz
      have : i - xs.length = 0 := by
        have := (List.getElem?_eq_some_iff.1 hz).1
        simp at this; omega
      rw [this] at hz
      simp at hz
      subst hz
      rwa [show i = n by omega]

section
variable {H : Type} {enc : TypeId × Value → H} {P : Program} {w : World} {base : Nat} {spare : Nat → Bool} {held : Bool}

theorem flatFs_trod {g : TypeId → Option (List Lf)} (hg : ∀ t lf, g t = some lf → ∀ (fuel : Nat) (cs : List Value) (x : DataW H × List MemPlace), DataW.trod enc P w base spare held fuel t cs = some x → ∃ pvs, fitsRow lf pvs ∧ RowRep w pvs cs) {n : Nat} {cs : List Value} :
    ∀ (fs : List Field) (off : Nat) (lf : List Lf), flatFs P g fs off = some lf → off + lf.length ≤ cs.length → (∀ f ∈ fs, ∃ x, DataW.trod enc P w base spare held n f.type ((cs.drop f.offset).take (P.cellsOf f.type)) = some x) → ∃ pvs, fitsRow lf pvs ∧ RowRep w pvs ((cs.drop off).take lf.length)
  | [], off, lf, h, hl, _ => by
    simp only [flatFs, Option.some.injEq] at h
    subst h
    exact ⟨[], by rw [fitsRow], rfl, fun i c v h => by simp at h⟩
  | f :: fs, off, lf, h, hl, hf => by
    simp only [flatFs] at h
    split at h
    · rename_i es hes
      split at h
      · rename_i hoff
        simp only [Option.map_eq_some_iff] at h
        obtain ⟨lf', h1, rfl⟩ := h
        simp only [List.length_append] at hl
        obtain ⟨x, hx⟩ := hf f (by simp)
        obtain ⟨p1, q1, r1⟩ := hg _ _ hes n _ x hx
        obtain ⟨p2, q2, r2⟩ := flatFs_trod hg fs (off + es.length) lf' h1 (by omega) (fun f' hf' => hf f' (by simp [hf']))
        refine ⟨p1 ++ p2, fitsRow_append q1 q2, ?_⟩
        have : (cs.drop off).take (es ++ lf').length = (cs.drop f.offset).take (P.cellsOf f.type) ++ (cs.drop (off + es.length)).take lf'.length := by
          rw [hoff.1, ← hoff.2, List.length_append, List.take_add, List.drop_drop]
        rw [this]
        exact r1.append r2
      · cases h
    · cases h

theorem flat_trod :
    ∀ (n : Nat) (t : TypeId) (lf : List Lf), flatT P n t = some lf → ∀ (fuel : Nat) (cs : List Value) (x : DataW H × List MemPlace), DataW.trod enc P w base spare held fuel t cs = some x → ∃ pvs, fitsRow lf pvs ∧ RowRep w pvs cs
  | 0, t, lf, h, _, _, _, _ => by simp [flatT] at h
  | n + 1, t, lf, h, fuel, cs, x, hx => by
    unfold flatT at h
    split at h
    · rename_i ht
      simp only [Option.some.injEq] at h
      subst h
      obtain ⟨b, rfl, _⟩ := DataW.trod_bool ht hx
      exact ⟨[.bool b], by rw [fitsRow]; exact ⟨_, _, rfl, by rw [fitsLf]; exact ⟨b, rfl⟩, by rw [fitsRow]⟩, RowRep.one (.bool b)⟩
    · rename_i k ht
      simp only [Option.some.injEq] at h
      subst h
      obtain ⟨m, rfl, _, hw⟩ := DataW.trod_int ht hx
      exact ⟨[.int k m], by rw [fitsRow]; exact ⟨_, _, rfl, by rw [fitsLf]; exact ⟨m, rfl, hw⟩, by rw [fitsRow]⟩, RowRep.one (.int k m)⟩
    · rename_i e ht
      split at h
      · rename_i es hes
        split at h
        · rename_i hlen
          simp only [Option.some.injEq] at h
          subst h
          rcases DataW.trod_slice ht hx with ⟨rfl, _⟩ | ⟨a, len, cap, elems, rest, m, _, rfl, _, hb, hl, hm, hlen', hel, _, _⟩
          · exact ⟨[.sl true []], by rw [fitsRow]; exact ⟨_, _, rfl, by rw [fitsLf]; exact .inl rfl, by rw [fitsRow]⟩, RowRep.one .nil⟩
          · obtain ⟨b, off, sp⟩ := a
            rcases Nat.eq_zero_or_pos len with h0 | h0
            · subst h0
              refine ⟨[.sl false []], ?_, RowRep.one (repP_emp _ _)⟩
              rw [fitsRow]
              refine ⟨_, _, rfl, ?_, by rw [fitsRow]⟩
              rw [fitsLf]
              exact .inr ⟨[], rfl, by simp, fun z hz => by simp at hz⟩
            have hspot : sp = none := by
              have h1 := hel 0 h0
              have h2 : elems[0]? = some (elems[0]'(by omega)) := by simp [show 0 < elems.length by omega]
              rw [h2, Option.bind_eq_some_iff] at h1
              obtain ⟨ci, hci, _⟩ := h1
              have h3 := (World.cells?_some hci).2.2 0 (by omega)
              simp only [Nat.zero_mul, Addr.add, if_true] at h3
              have hcl : 0 < ci.length := by rw [(World.cells?_some hci).2.1]; omega
              rw [show ci[0]? = some ci[0] by simp [hcl]] at h3
              unfold World.cell? at h3
              split at h3
              · cases sp with
                | none => rfl
                | some s => simp at h3
              · cases h3
            subst hspot
            have each : ∀ i, i < len → ∃ y : List PV, fitsRow es y ∧ ∃ ci, w.cells? base ((⟨b, off, none⟩ : Addr).add (i * P.cellsOf e)) (P.cellsOf e) = some ci ∧ RowRep w y ci := by
              intro i hi
              have h1 := hel i hi
              have h2 : elems[i]? = some (elems[i]'(by omega)) := by simp [show i < elems.length by omega]
              rw [h2, Option.bind_eq_some_iff] at h1
              obtain ⟨ci, hci, htr⟩ := h1
              obtain ⟨y, hy1, hy2⟩ := flat_trod n e es hes m ci _ htr
              exact ⟨y, hy1, ci, hci, hy2⟩
            obtain ⟨xs, hx1, hx2⟩ := exists_list len each
            have hwd : ∀ (i : Nat) z, xs[i]? = some z → z.length = P.cellsOf e := fun i z hz => by rw [fitsRow_length (hx2 i z hz).1, hlen.1]
            have hcell : ∀ (i : Nat) z (j : Nat) c, xs[i]? = some z → z[j]? = some c → ∃ v, w.cell? ⟨b, off + (i * P.cellsOf e + j), none⟩ = some v ∧ RepP (G0 w).cls w c v := by
              intro i z j c hz hc
              obtain ⟨_, ci, hci, hr⟩ := hx2 i z hz
              have hj : j < ci.length := by rw [← hr.1]; exact (List.getElem?_eq_some_iff.1 hc).1
              have hjl : j < P.cellsOf e := by rw [← (World.cells?_some hci).2.1]; exact hj
              have h3 := (World.cells?_some hci).2.2 j hjl
              rw [add_none, add_none] at h3
              refine ⟨ci[j], by rw [← Nat.add_assoc, h3]; simp [hj], hr.2 j c _ hc (by simp [hj])⟩
            refine ⟨[.sl false xs], ?_, RowRep.one ?_⟩
            · rw [fitsRow]
              refine ⟨_, _, rfl, ?_, by rw [fitsRow]⟩
              rw [fitsLf]
              refine .inr ⟨xs, rfl, by omega, fun z hz => ?_⟩
              obtain ⟨i, hi⟩ := List.getElem?_of_mem hz
              exact (hx2 i z hi).1
            · have := RepP.sl (cls := (G0 w).cls) (w := w) b off cap (P.cellsOf e) xs (fun j => (w.cell? ⟨b, off + j, none⟩).getD undef) none (fun _ => rfl) (by omega) hwd (fun i z j c hz hc => by
                obtain ⟨v, h1, _⟩ := hcell i z j c hz hc
                exact ⟨by simp [G0, h1], by rw [h1]; rfl⟩) (fun i z j c hz hc => by
                obtain ⟨v, h1, h2⟩ := hcell i z j c hz hc
                simp only [h1, Option.getD_some]
                exact h2)
              rw [hx1] at this
              exact this
        · cases h
      · cases h
    · rename_i fs ht
      split at h
      · rename_i es hes
        split at h
        · rename_i hlen
          simp only [Option.some.injEq] at h
          subst h
          obtain ⟨xs, m, _, _, hl, hxl, hf⟩ := DataW.trod_struct ht hx
          obtain ⟨pvs, q1, q2⟩ := flatFs_trod (n := m) (cs := cs) (fun t lf h fuel cs x hx => flat_trod n t lf h fuel cs x hx) fs.toList 0 es hes (by omega) (fun f hm => by
            obtain ⟨i, hi⟩ := List.getElem?_of_mem hm
            have hi' : fs[i]? = some f := by simpa using hi
            have := hf i f hi'
            have hil : i < xs.length := by rw [hxl]; exact (Array.getElem?_eq_some_iff.1 hi').1
            exact ⟨xs[i], by rw [this]; simp [hil]⟩)
          refine ⟨pvs, q1, ?_⟩
          rw [List.drop_zero, hlen, ← hl, List.take_length] at q2
          exact q2
        · cases h
      · cases h
    · rename_i m e ht
      split at h
      · rename_i es hes
        split at h
        · rename_i hlen
          simp only [Option.some.injEq] at h
          subst h
          obtain ⟨xs, m', _, _, hl, hxl, hf⟩ := DataW.trod_array ht hx
          have each : ∀ j, j ≤ m → ∃ pvs, fitsRow (List.replicate j es).flatten pvs ∧ RowRep w pvs (cs.take (j * es.length)) := by
            intro j
            induction j with
            | zero => intro _; exact ⟨[], by simp [fitsRow], by simp, fun i c v h => by simp at h⟩
            | succ j ih =>
              intro hj
              obtain ⟨p1, q1, r1⟩ := ih (by omega)
              have h1 := hf j (by omega)
              have h2 : xs[j]? = some (xs[j]'(by omega)) := by simp [show j < xs.length by omega]
              rw [h2] at h1
              obtain ⟨p2, q2, r2⟩ := flat_trod n e es hes m' _ _ h1
              refine ⟨p1 ++ p2, ?_, ?_⟩
              · rw [List.replicate_succ', List.flatten_append]
                simpa using fitsRow_append q1 q2
              · rw [Nat.succ_mul, List.take_add]
                rw [← hlen.1] at r2
                exact r1.append r2
          obtain ⟨pvs, q1, q2⟩ := each m (Nat.le_refl _)
          refine ⟨pvs, q1, ?_⟩
          rw [hlen.2, ← hl, List.take_length] at q2
          exact q2
        · cases h
      · cases h
    · cases h
end
end Go.Cw
