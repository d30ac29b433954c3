/- RULES for maps and for calls that hand out a row. -/
import Derived.Test.YtinenepjloodcaaCwR
set_option linter.unusedVariables false
set_option linter.unusedSimpArgs false
namespace Go.Cw

section
variable {P : Program} {m : CMode} {os : List AOper} {id : Nat} {F : Nat → AV} {S S0 : St} {K : (Nat → AV) → St → Prop} {d n : Nat} {H : List (Nat × Blk)} {x y c : Opd} {dst : Option Nat}

theorem q_mp {o : MOp} (h : actM P m o (evalO F) S id (fun v S' => aops P m os (id + 1) (updO F dst v) S' K)) : aops P m (⟨dst, .mp o, none⟩ :: os) id F S K := q_act h

theorem put_ST {k : Nat} {b : Blk} : (ST S0 n H).put k b = ST S0 n ((k, b) :: H) := by
  simp only [ST, St.put, St.mk.injEq, true_and]
  funext j
  simp [getB]

theorem q_mapmk {wd : Nat} {z : AV} (h : ∀ k, k = id → aops P m os (id + 1) (upd F d (.map k)) (ST S0 n ((k, .map wd z [] 0) :: H)) K) : aops P m (⟨some d, .mp (.mk wd z), none⟩ :: os) id F (ST S0 n H) K := by
  refine q_mp (o := .mk wd z) ?_
  show aops P m os (id + 1) (updO F (some d) (.map id)) ((ST S0 n H).put id _) K
  rw [put_ST]; exact h id rfl

theorem q_look {wd k cl : Nat} {z v : AV} {key : Opd} {ks : List Int} {es : MEs} (hx : evalO F x = .map k) (hk : keyInts (evalO F key) = some ks) (hH : getB S0.H H k = some (.map wd z es cl)) (hl : ks.length = wd) (hv : lookV z ks es = v)
    (h : aops P m os (id + 1) (upd F d v) (ST S0 n H) K) : aops P m (⟨some d, .mp (.look wd z x key), none⟩ :: os) id F (ST S0 n H) K := by
  refine q_mp ⟨k, ks, es, cl, hx, hk, hH, hl, ?_⟩
  rw [hv]; exact h

theorem q_ent {wd k cl b : Nat} {z v : AV} {key : Opd} {ks : List Int} {es : MEs} (hx : evalO F x = .map k) (hk : keyInts (evalO F key) = some ks) (hH : getB S0.H H k = some (.map wd z es cl)) (hl : ks.length = wd) (hv : lookV z ks es = v) (hb : entB ks es cl = b)
    (h : aops P m os (id + 1) (upd F d (.tup [v, .p (.int .i64 b)])) (ST S0 n ((k, .map wd z (entE z ks es cl) (entC ks es cl)) :: H)) K) : aops P m (⟨some d, .mp (.ent wd z x key), none⟩ :: os) id F (ST S0 n H) K := by
  refine q_mp ⟨k, ks, es, cl, hx, hk, hH, hl, ?_⟩
  rw [hv, hb, put_ST]; exact h

theorem q_set {wd k cl b : Nat} {z : AV} {st u : Opd} {es es' : MEs} (hx : evalO F x = .map k) (hs : evalO F st = .p (.int .i64 (b : Nat))) (hH : getB S0.H H k = some (.map wd z es cl)) (he : setB b (evalO F u) es = some es')
    (h : aops P m os (id + 1) F (ST S0 n ((k, .map wd z es' cl) :: H)) K) : aops P m (⟨none, .mp (.set x st u), none⟩ :: os) id F (ST S0 n H) K := by
  refine q_mp ⟨k, b, es, es', wd, z, cl, hx, hs, hH, he, ?_⟩
  rw [put_ST]; exact h

theorem q_range {wd k cl : Nat} {z : AV} {es : MEs} (hx : evalO F x = .map k) (hH : getB S0.H H k = some (.map wd z es cl)) (h : ∀ r, r = id → aops P m os (id + 1) (upd F d (.ptr r 0)) (ST S0 n ((r, .iter k cl [] cl) :: H)) K) :
    aops P m (⟨some d, .mp (.range x), none⟩ :: os) id F (ST S0 n H) K := by
  refine q_mp ⟨k, wd, z, es, cl, hx, hH, ?_⟩
  rw [put_ST]; exact h id rfl

theorem q_nxt {r k since last wd cl : Nat} {seen : List Nat} {z : AV} {es : MEs} (hx : evalO F x = .ptr r 0) (hr : getB S0.H H r = some (.iter k since seen last)) (hH : getB S0.H H k = some (.map wd z es cl)) (hlt : ∀ e ∈ es, e.2.2 < last)
    (h1 : ∀ e ∈ es, e.2.2 ∉ seen → aops P .free os (id + 1) (upd F d (.tup [.p (.bool true), .agg (e.1.map fun n => .p (.int .i64 n)), e.2.1])) (ST S0 n ((r, .iter k since (seen ++ [e.2.2]) cl) :: H)) K)
    (h2 : (∀ e ∈ es, e.2.2 < since → e.2.2 ∈ seen) → aops P .free os (id + 1) (upd F d (.tup [.p (.bool false)])) (ST S0 n H) K) : aops P .free (⟨some d, .mp (.nxt x), none⟩ :: os) id F (ST S0 n H) K := by
  refine q_mp ⟨r, k, since, seen, last, wd, z, es, cl, hx, hr, hH, hlt, fun e he hs => ?_, h2⟩
  rw [put_ST]; exact h1 e he hs

theorem q_entry {r k since wd cl b : Nat} {seen : List Nat} {z : AV} {es : MEs} {e : List Int × AV × Nat} (hx : evalO F x = .ptr r 0) (hr : getB S0.H H r = some (.iter k since (seen ++ [b]) cl)) (hH : getB S0.H H k = some (.map wd z es cl)) (hf : findB b es = some e)
    (h : aops P m os (id + 1) (upd F d (.tup [.agg (e.1.map fun n => .p (.int .i64 n)), e.2.1])) (ST S0 n H) K) : aops P m (⟨some d, .mp (.entry x), none⟩ :: os) id F (ST S0 n H) K :=
  q_mp ⟨r, k, since, seen, b, wd, z, es, cl, e, hx, hr, hH, hf, h⟩

theorem q_callF {f sz : Nat} {args : List Opd} {xs : List (List PV)} (hs : FSpec P f (args.map (evalO F)) xs sz) (h : ∀ k, k = id → aops P m os (id + 1) (upd F d (.sl xs.isEmpty xs (.vec k))) (ST S0 n ((k, .fr xs.length sz) :: H)) K) :
    aops P m (⟨some d, .mp (.callF f sz args), none⟩ :: os) id F (ST S0 n H) K := by
  refine q_mp ⟨xs, hs, ?_⟩
  rw [put_ST]; exact h id rfl

theorem getB_nil {H : Nat → Option Blk} {k : Nat} : getB H [] k = H k := rfl
theorem wkV_mapv {n k : Nat} (h : k < n) : wkV n (.map k) (.map k) := .same h
theorem q_mov_mapv {k : Nat} (hx : evalO F x = .map k) (h : aops P m os (id + 1) (upd F d (.map k)) S K) : aops P m (⟨some d, .mov x, none⟩ :: os) id F S K := q_mov hx h
end

/-! ### A map from keys to whole numbers, in the order in which they came -/

abbrev KV := List (List Int × Int)

def mesOf : KV → Nat → MEs
  | [], _ => []
  | e :: g, b => (e.1, .p (.int .i64 e.2), b) :: mesOf g (b + 1)

def valK (p : List Int) : KV → Int
  | [] => 0
  | e :: g => if e.1 = p then e.2 else valK p g

def incK (p : List Int) (d : Int) : KV → KV
  | [] => [(p, d)]
  | e :: g => if e.1 = p then (e.1, e.2 + d) :: g else e :: incK p d g

theorem look_mesOf {p : List Int} : ∀ {g : KV} {b : Nat}, lookV (.p (.int .i64 0)) p (mesOf g b) = .p (.int .i64 (valK p g))
  | [], _ => rfl
  | e :: g, b => by
    simp only [lookV, mesOf, findK, valK]
    by_cases h : e.1 = p
    · simp [h]
    · rw [if_neg h, if_neg h]
      have := look_mesOf (p := p) (g := g) (b := b + 1)
      simpa [lookV] using this

theorem set_mesOf {p : List Int} {v d : Int} : ∀ {g : KV} {b : Nat}, v = valK p g + d → setB (entB p (mesOf g b) (b + g.length)) (.p (.int .i64 v)) (entE (.p (.int .i64 0)) p (mesOf g b) (b + g.length)) = some (mesOf (incK p d g) b)
  | [], b, hv => by
    simp only [valK] at hv
    simp [mesOf, entB, entE, findK, setB, incK, hv]
  | e :: g, b, hv => by
    by_cases h : e.1 = p
    · simp only [valK, if_pos h] at hv
      simp [mesOf, entB, entE, findK, h, setB, incK, hv]
    · have ih := set_mesOf (p := p) (v := v) (d := d) (g := g) (b := b + 1) (by simpa [valK, h] using hv)
      simp only [entB, entE, mesOf, findK, if_neg h, incK, List.length_cons] at ih ⊢
      have hlen : b + (g.length + 1) = b + 1 + g.length := by omega
      rw [hlen]
      cases hf : findK p (mesOf g (b + 1)) with
      | none =>
        simp only [hf] at ih ⊢
        simp only [List.cons_append, setB]
        rw [if_neg (by omega), ih]; rfl
      | some e' =>
        simp only [hf] at ih ⊢
        have hb : b + 1 ≤ e'.2.2 := by
          have : ∀ (g : KV) (b : Nat), findK p (mesOf g b) = some e' → b ≤ e'.2.2 := by
            intro g
            induction g with
            | nil => intro b h; simp [mesOf, findK] at h
            | cons x g ih2 =>
              intro b h
              simp only [mesOf, findK] at h
              split at h
              · simp only [Option.some.injEq] at h; subst h; exact Nat.le_refl _
              · have := ih2 (b + 1) h; omega
          exact this g (b + 1) hf
        simp only [setB]
        rw [if_neg (by omega), ih]; rfl

theorem entC_mesOf {p : List Int} {d : Int} : ∀ {g : KV} {b : Nat} {cl : Nat}, entC p (mesOf g b) cl + g.length = cl + (incK p d g).length
  | [], b, cl => by simp [entC, mesOf, findK, incK]
  | e :: g, b, cl => by
    by_cases h : e.1 = p
    · simp [entC, mesOf, findK, incK, h]
    · have ih := entC_mesOf (p := p) (d := d) (g := g) (b := b + 1) (cl := cl)
      simp only [entC, mesOf, findK, if_neg h, incK, List.length_cons] at ih ⊢
      omega

theorem valK_inc {p q : List Int} {d : Int} : ∀ {g : KV}, valK q (incK p d g) = valK q g + (if p = q then d else 0)
  | [] => by simp [incK, valK]
  | e :: g => by
    have ih := valK_inc (p := p) (q := q) (d := d) (g := g)
    by_cases h : e.1 = p
    · simp only [incK, if_pos h, valK]
      by_cases hq : e.1 = q
      · rw [if_pos hq, if_pos hq, if_pos (h.symm.trans hq)]
      · rw [if_neg hq, if_neg hq, if_neg (fun e' => hq (h.trans e')), Int.add_zero]
    · simp only [incK, if_neg h, valK]
      by_cases hq : e.1 = q
      · rw [if_pos hq, if_pos hq, if_neg (fun e' => h (hq.trans e'.symm)), Int.add_zero]
      · rw [if_neg hq, if_neg hq, ih]

theorem mem_incK {p q : List Int} {d : Int} : ∀ {g : KV}, q ∈ (incK p d g).map (·.1) ↔ q ∈ g.map (·.1) ∨ q = p
  | [] => by simp [incK]
  | e :: g => by
    have ih := mem_incK (p := p) (q := q) (d := d) (g := g)
    by_cases h : e.1 = p
    · simp only [incK, if_pos h, List.map_cons, List.mem_cons]
      constructor
      · intro h'; exact .inl h'
      · rintro (h' | rfl)
        · exact h'
        · exact .inl h.symm
    · simp only [incK, if_neg h, List.map_cons, List.mem_cons, ih, or_assoc]

theorem nodup_incK {p : List Int} {d : Int} : ∀ {g : KV}, (g.map (·.1)).Nodup → ((incK p d g).map (·.1)).Nodup
  | [], _ => by simp [incK]
  | e :: g, h => by
    simp only [List.map_cons, List.nodup_cons] at h
    by_cases hp : e.1 = p
    · simp only [incK, if_pos hp, List.map_cons, List.nodup_cons]; exact h
    · simp only [incK, if_neg hp, List.map_cons, List.nodup_cons]
      refine ⟨fun hm => ?_, nodup_incK h.2⟩
      rcases mem_incK.1 hm with h' | h'
      · exact h.1 h'
      · exact hp h'

theorem valK_mem : ∀ {g : KV} {e : List Int × Int}, (g.map (·.1)).Nodup → e ∈ g → valK e.1 g = e.2
  | [], _, _, h => by cases h
  | x :: g, e, hn, h => by
    simp only [List.map_cons, List.nodup_cons] at hn
    simp only [valK]
    rcases List.mem_cons.1 h with rfl | h
    · simp
    · have : x.1 ≠ e.1 := fun e' => hn.1 (by rw [e']; exact List.mem_map.2 ⟨e, h, rfl⟩)
      rw [if_neg this]; exact valK_mem hn.2 h

/-- The entries' times are their places. -/
theorem mesOf_mem {e : List Int × AV × Nat} : ∀ {g : KV} {b : Nat}, e ∈ mesOf g b → ∃ i, ∃ h : i < g.length, e = (g[i].1, .p (.int .i64 g[i].2), b + i)
  | [], _, h => by cases h
  | x :: g, b, h => by
    simp only [mesOf, List.mem_cons] at h
    rcases h with rfl | h
    · exact ⟨0, by simp, rfl⟩
    · obtain ⟨i, hi, rfl⟩ := mesOf_mem h
      exact ⟨i + 1, by simpa using hi, by simp; omega⟩
theorem mesOf_find {b : Nat} : ∀ {g : KV} {i : Nat} (h : i < g.length), findB (b + i) (mesOf g b) = some (g[i].1, .p (.int .i64 g[i].2), b + i)
  | [], _, h => by simp at h
  | x :: g, 0, _ => by simp [mesOf, findB]
  | x :: g, i + 1, h => by
    simp only [mesOf, findB]
    rw [if_neg (by omega)]
    have := mesOf_find (b := b + 1) (g := g) (i := i) (by simpa using h)
    rw [show b + (i + 1) = b + 1 + i by omega, this]; rfl
theorem mesOf_get {b : Nat} : ∀ {g : KV} {i : Nat} (h : i < g.length), (g[i].1, .p (.int .i64 g[i].2), b + i) ∈ mesOf g b
  | [], _, h => by simp at h
  | x :: g, 0, _ => by simp [mesOf]
  | x :: g, i + 1, h => by
    have := mesOf_get (b := b + 1) (g := g) (i := i) (by simpa using h)
    simp only [mesOf, List.mem_cons, List.getElem_cons_succ]
    right
    rw [show b + (i + 1) = b + 1 + i by omega]; exact this

/-- How many places have not been seen. -/
def unseen (seen : List Nat) : Nat → Nat
  | 0 => 0
  | n + 1 => (if n ∈ seen then 0 else 1) + unseen seen n
theorem unseen_le {seen : List Nat} {b : Nat} : ∀ {n : Nat}, unseen (seen ++ [b]) n ≤ unseen seen n
  | 0 => Nat.le_refl _
  | n + 1 => by
    have h0 := unseen_le (seen := seen) (b := b) (n := n)
    have e1 : unseen (seen ++ [b]) (n + 1) = (if n ∈ seen ++ [b] then 0 else 1) + unseen (seen ++ [b]) n := rfl
    have e2 : unseen seen (n + 1) = (if n ∈ seen then 0 else 1) + unseen seen n := rfl
    rw [e1, e2]
    by_cases h1 : n ∈ seen
    · rw [if_pos (by simp [h1]), if_pos h1]; omega
    · rw [if_neg h1]; split <;> omega
theorem unseen_lt {seen : List Nat} {b : Nat} (hb : b ∉ seen) : ∀ (n : Nat), b < n → unseen (seen ++ [b]) n < unseen seen n
  | 0, h => by omega
  | n + 1, h => by
    have h0 := unseen_le (seen := seen) (b := b) (n := n)
    have e1 : unseen (seen ++ [b]) (n + 1) = (if n ∈ seen ++ [b] then 0 else 1) + unseen (seen ++ [b]) n := rfl
    have e2 : unseen seen (n + 1) = (if n ∈ seen then 0 else 1) + unseen seen n := rfl
    rw [e1, e2]
    by_cases h2 : n = b
    · subst h2
      rw [if_pos (by simp), if_neg hb]; omega
    · have h3 := unseen_lt hb n (by omega)
      by_cases h1 : n ∈ seen
      · rw [if_pos (by simp [h1]), if_pos h1]; omega
      · rw [if_neg (by simp [h1, h2]), if_neg h1]; omega
end Go.Cw
