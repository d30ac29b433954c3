/- ABSTRACT VALUES AND STATES OVER THE MODEL's MEMORY: what a value stands for, what a state says of a world, and how both last. -/
import Derived.WalkKit
import Derived.Laws.IdiomCopy
namespace Go.Cw

/-- A cell of memory that is never written again. -/
inductive PV where
  | bool (b : Bool)
  | int (k : IntKind) (n : Int)
  | str (s : ByteArray)
  | sl (nil : Bool) (xs : List (List PV))

/-- What is known of a slice's spare places. -/
inductive Tok where
  | no
  | full
  | vec (k : Nat)

/-- An abstract value. -/
inductive AV where
  | junk
  | p (c : PV)
  | sl (nil : Bool) (xs : List (List PV)) (t : Tok)
  | agg (cs : List AV)
  | tup (vs : List AV)
  | ptr (k o : Nat)
  | ref (cs : List PV) (o : Nat)
  | map (k : Nat)
  | fn (f : Nat) (caps : List AV)
  | nilfn
  | nilptr
  | nilmap

inductive Cls where
  | free
  | settled
  | own (k : Nat)

structure VI where
  base : Option Addr
  cap : Nat
  wd : Nat
  m : Nat

structure Gh where
  live : Nat → Bool
  cls : Nat → Nat → Cls
  ptr : Nat → Nat
  vec : Nat → VI

inductive RepP (cls : Nat → Nat → Cls) (w : World) : PV → Value → Prop where
  | bool (b : Bool) : RepP cls w (.bool b) (.bool b)
  | int (k : IntKind) (n : Int) : RepP cls w (.int k n) (.int k n)
  | str (s : ByteArray) : RepP cls w (.str s) (.string s)
  | nil : RepP cls w (.sl true []) (.slice none 0 0)
  | sl (b off cap wd : Nat) (xs : List (List PV)) (f : Nat → Value) (sp : Option Nat) (hsp : 0 < xs.length → sp = none) (hcap : xs.length ≤ cap)
      (hw : ∀ (i : Nat) (x : List PV), xs[i]? = some x → x.length = wd)
      (hc : ∀ (i : Nat) (x : List PV) (j : Nat) (c : PV), xs[i]? = some x → x[j]? = some c → cls b (off + (i * wd + j)) = .settled ∧ w.cell? ⟨b, off + (i * wd + j), none⟩ = some (f (i * wd + j)))
      (hr : ∀ (i : Nat) (x : List PV) (j : Nat) (c : PV), xs[i]? = some x → x[j]? = some c → RepP cls w c (f (i * wd + j))) :
      RepP cls w (.sl false xs) (.slice (some ⟨b, off, sp⟩) xs.length cap)

def TokOk (G : Gh) (t : Tok) (len : Nat) (v : Value) : Prop :=
  match t with
  | .no => True
  | .full => ∃ a, v = .slice a len len
  | .vec k => G.live k = true ∧ len ≤ (G.vec k).m ∧ (len = (G.vec k).m → v = .slice (G.vec k).base len (G.vec k).cap)

inductive Rep (G : Gh) (w : World) : AV → Value → Prop where
  | junk (v : Value) : Rep G w .junk v
  | p {c : PV} {v : Value} (h : RepP G.cls w c v) : Rep G w (.p c) v
  | sl {nil : Bool} {xs : List (List PV)} {t : Tok} {v : Value} (h : RepP G.cls w (.sl nil xs) v) (ht : TokOk G t xs.length v) : Rep G w (.sl nil xs t) v
  | agg {cs : List AV} {vs : List Value} (hl : cs.length = vs.length) (h : ∀ (i : Nat) c v, cs[i]? = some c → vs[i]? = some v → Rep G w c v)
      (h1 : ∀ v ∈ vs, v.oneCell' = true) : Rep G w (.agg cs) (.agg vs.toArray)
  | tup {cs : List AV} {vs : List Value} (hl : cs.length = vs.length) (h : ∀ (i : Nat) c v, cs[i]? = some c → vs[i]? = some v → Rep G w c v) : Rep G w (.tup cs) (.tuple vs.toArray)
  | ptr {k o : Nat} (h : G.live k = true) : Rep G w (.ptr k o) (.pointer (some ⟨G.ptr k, o, none⟩))
  | ref {cs : List PV} {o b off : Nat} (f : Nat → Value) (hc : ∀ (j : Nat) c, cs[j]? = some c → G.cls b (off + j) = .settled ∧ w.cell? ⟨b, off + j, none⟩ = some (f j))
      (hr : ∀ (j : Nat) c, cs[j]? = some c → RepP G.cls w c (f j)) : Rep G w (.ref cs o) (.pointer (some ⟨b, off + o, none⟩))
  | map {k : Nat} (h : G.live k = true) : Rep G w (.map k) (.map (some (G.ptr k)))
  | fn {f : Nat} {cs : List AV} {vs : List Value} (hl : cs.length = vs.length) (h : ∀ (i : Nat) c v, cs[i]? = some c → vs[i]? = some v → Rep G w c v) :
      Rep G w (.fn f cs) (.func (.func f) #[] vs.toArray)
  | nilfn : Rep G w .nilfn .nilFunc
  | nilptr : Rep G w .nilptr (.pointer none)
  | nilmap : Rep G w .nilmap (.map none)

/-- Values all of a row. -/
def RepL (G : Gh) (w : World) (cs : List AV) (vs : List Value) : Prop :=
  cs.length = vs.length ∧ ∀ (i : Nat) c v, cs[i]? = some c → vs[i]? = some v → Rep G w c v

theorem RepL.nil (G : Gh) (w : World) : RepL G w [] [] := ⟨rfl, fun i c v h => by simp at h⟩
theorem RepL.cons {G : Gh} {w : World} {c : AV} {v : Value} {cs : List AV} {vs : List Value} (h : Rep G w c v) (hs : RepL G w cs vs) : RepL G w (c :: cs) (v :: vs) := by
  refine ⟨by simp [hs.1], fun i c' v' h1 h2 => ?_⟩
  cases i with
  | zero => simp at h1 h2; subst h1; subst h2; exact h
  | succ i => simp at h1 h2; exact hs.2 i _ _ h1 h2
theorem RepL.uncons {G : Gh} {w : World} {c : AV} {cs : List AV} {l : List Value} (h : RepL G w (c :: cs) l) : ∃ v vs, l = v :: vs ∧ Rep G w c v ∧ RepL G w cs vs := by
  obtain ⟨hl, h⟩ := h
  cases l with
  | nil => simp at hl
  | cons v vs => exact ⟨v, vs, rfl, h 0 _ _ rfl rfl, by simpa using hl, fun i c' v' h1 h2 => h (i + 1) _ _ (by simpa using h1) (by simpa using h2)⟩
theorem RepL.nil_inv {G : Gh} {w : World} {l : List Value} (h : RepL G w [] l) : l = [] := by
  have := h.1; exact List.eq_nil_of_length_eq_zero this.symm
theorem RepL.append {G : Gh} {w : World} {cs ds : List AV} {vs us : List Value} (h : RepL G w cs vs) (k : RepL G w ds us) : RepL G w (cs ++ ds) (vs ++ us) := by
  induction cs generalizing vs with
  | nil => rw [RepL.nil_inv h]; exact k
  | cons c cs ih => obtain ⟨v, vs, rfl, h1, h2⟩ := h.uncons; exact RepL.cons h1 (ih h2)
theorem RepL.get {G : Gh} {w : World} {cs : List AV} {vs : List Value} (h : RepL G w cs vs) (i : Nat) (c : AV) (hc : cs[i]? = some c) : ∃ v, vs[i]? = some v ∧ Rep G w c v := by
  have hi : i < vs.length := by rw [← h.1]; exact (List.getElem?_eq_some_iff.1 hc).1
  exact ⟨vs[i], by simp [hi], h.2 i _ _ hc (by simp [hi])⟩

/-- A key: a row of whole numbers. -/
def intsV (ks : List Int) : Value := .agg (ks.map fun n => Value.int .i64 n).toArray

inductive Blk where
  | cells (cs : List AV)
  | fr (m wd : Nat)
  | map (wd : Nat) (z : AV) (es : List (List Int × AV × Nat)) (clock : Nat)
  | iter (mk since : Nat) (seen : List Nat) (last : Nat)

structure St where
  n : Nat
  H : Nat → Option Blk

def St.put (S : St) (k : Nat) (b : Blk) : St := { S with H := fun i => if i = k then some b else S.H i }
@[simp] theorem St.put_n (S : St) (k : Nat) (b : Blk) : (S.put k b).n = S.n := rfl
@[simp] theorem St.put_H (S : St) (k : Nat) (b : Blk) (j : Nat) : (S.put k b).H j = if j = k then some b else S.H j := rfl

def BlkOk (G : Gh) (w : World) (k : Nat) : Blk → Prop
  | .cells cs => ∃ vs e, w.heap[G.ptr k]? = some (.cells vs e (0, 0)) ∧ RepL G w cs vs.toList ∧ (∀ v ∈ vs.toList, v.oneCell' = true) ∧ ∀ o, G.cls (G.ptr k) o = .own k
  | .fr m wd => (G.vec k).m = m ∧ (G.vec k).wd = wd ∧ m ≤ (G.vec k).cap ∧ ((G.vec k).base = none → (G.vec k).cap = 0) ∧ ∀ a, (G.vec k).base = some a → ((G.vec k).cap = 0 ∨ a.spot = none) ∧
      ∀ j, m * wd ≤ j → j < (G.vec k).cap * wd → G.cls a.block (a.off + j) = .own k ∧ (w.cell? ⟨a.block, a.off + j, none⟩).isSome = true ∧ w.frozen? ⟨a.block, a.off + j, none⟩ = false
  | .map wd _ es cl => ∃ mes, w.heap[G.ptr k]? = some (.map mes cl) ∧ mes.size = es.length ∧ (∀ (i : Nat) e m, es[i]? = some e → mes[i]? = some m → e.1.length = wd ∧ m.key = intsV e.1 ∧ Rep G w e.2.1 m.val ∧ m.born = e.2.2) ∧ ∀ o, G.cls (G.ptr k) o = .own k
  | .iter mk since seen last => w.heap[G.ptr k]? = some (.mapIter (some (G.ptr mk)) since seen.toArray last) ∧ G.live mk = true ∧ ∀ o, G.cls (G.ptr k) o = .own k

structure SimC (G : Gh) (S : St) (w : World) : Prop where
  blk : ∀ k b, S.H k = some b → G.live k = true ∧ BlkOk G w k b
  bnd : ∀ k, G.live k = true → k < S.n
  set : ∀ b o, G.cls b o = .settled → (w.cell? ⟨b, o, none⟩).isSome = true
  free : ∀ b o, w.heap.size ≤ b → G.cls b o = .free

structure Sim (G : Gh) (S : St) (w : World) : Prop extends SimC G S w where
  own : ∀ b o k, G.cls b o = .own k → G.live k = true

/-- What lasts of values. -/
structure Le (G : Gh) (w : World) (G' : Gh) (w' : World) : Prop where
  live : ∀ k, G.live k = true → G'.live k = true
  ptr : ∀ k, G.live k = true → G'.ptr k = G.ptr k
  vec : ∀ k, G.live k = true → (G.vec k).m ≤ (G'.vec k).m ∧ ((G.vec k).m = (G'.vec k).m → G'.vec k = G.vec k)
  settled : ∀ b o, G.cls b o = .settled → G'.cls b o = .settled
  pres : ∀ b o, G.cls b o = .settled → w'.cell? ⟨b, o, none⟩ = w.cell? ⟨b, o, none⟩

theorem Le.refl (G : Gh) (w : World) : Le G w G w := ⟨fun _ h => h, fun _ _ => rfl, fun _ _ => ⟨Nat.le_refl _, fun _ => rfl⟩, fun _ _ h => h, fun _ _ _ => rfl⟩

theorem Le.trans {G1 G2 G3 : Gh} {w1 w2 w3 : World} (h : Le G1 w1 G2 w2) (k : Le G2 w2 G3 w3) : Le G1 w1 G3 w3 where
  live i hi := k.live i (h.live i hi)
  ptr i hi := (k.ptr i (h.live i hi)).trans (h.ptr i hi)
  vec i hi := by
    have h1 := h.vec i hi
    have h2 := k.vec i (h.live i hi)
    refine ⟨Nat.le_trans h1.1 h2.1, fun e => ?_⟩
    have e1 : (G1.vec i).m = (G2.vec i).m := by omega
    rw [h2.2 (by omega), h1.2 e1]
  settled b o hb := k.settled b o (h.settled b o hb)
  pres b o hb := (k.pres b o (h.settled b o hb)).trans (h.pres b o hb)

theorem RepP.mono {cls cls' : Nat → Nat → Cls} {w w' : World} (h1 : ∀ b o, cls b o = .settled → cls' b o = .settled) (h2 : ∀ b o, cls b o = .settled → w'.cell? ⟨b, o, none⟩ = w.cell? ⟨b, o, none⟩)
    {c : PV} {v : Value} (h : RepP cls w c v) : RepP cls' w' c v := by
  induction h with
  | bool b => exact .bool b
  | int k n => exact .int k n
  | str s => exact .str s
  | nil => exact .nil
  | sl b off cap wd xs f sp hsp hcap hw hc hr ih =>
    exact .sl b off cap wd xs f sp hsp hcap hw (fun i x j c hx hj => ⟨h1 _ _ (hc i x j c hx hj).1, (h2 _ _ (hc i x j c hx hj).1).trans (hc i x j c hx hj).2⟩) ih

theorem RepP.oneCell {cls : Nat → Nat → Cls} {w : World} {c : PV} {v : Value} (h : RepP cls w c v) : v.oneCell' = true := by
  cases h <;> rfl

theorem Rep.mono {G G' : Gh} {w w' : World} (hle : Le G w G' w') {x : AV} {v : Value} (h : Rep G w x v) : Rep G' w' x v := by
  induction h with
  | junk v => exact .junk v
  | p h => exact .p (h.mono hle.settled hle.pres)
  | sl h ht =>
    refine .sl (h.mono hle.settled hle.pres) ?_
    rename_i t v
    cases t with
    | no => trivial
    | full => exact ht
    | vec k =>
      obtain ⟨hl, hm, he⟩ := ht
      have hv := hle.vec k hl
      refine ⟨hle.live k hl, by omega, fun e => ?_⟩
      rw [hv.2 (by omega)]
      exact he (by omega)
  | agg hl h h1 ih => exact .agg hl ih h1
  | tup hl h ih => exact .tup hl ih
  | ptr h => rename_i k o; rw [← hle.ptr k h]; exact .ptr (hle.live k h)
  | ref f hc hr => exact .ref f (fun j c hj => ⟨hle.settled _ _ (hc j c hj).1, (hle.pres _ _ (hc j c hj).1).trans (hc j c hj).2⟩) (fun j c hj => (hr j c hj).mono hle.settled hle.pres)
  | map h => rename_i k; rw [← hle.ptr k h]; exact .map (hle.live k h)
  | fn hl h ih => exact .fn hl ih
  | nilfn => exact .nilfn
  | nilptr => exact .nilptr
  | nilmap => exact .nilmap

theorem RepL.mono {G G' : Gh} {w w' : World} (hle : Le G w G' w') {cs : List AV} {vs : List Value} (h : RepL G w cs vs) : RepL G' w' cs vs :=
  ⟨h.1, fun i c v h1 h2 => (h.2 i c v h1 h2).mono hle⟩

structure Ext (G : Gh) (S : St) (w : World) (G' : Gh) (S' : St) (w' : World) : Prop extends Le G w G' w' where
  os : w'.os = w.os
  tape : w'.tape = w.tape
  output : w'.output = w.output
  size : w.heap.size ≤ w'.heap.size
  kept : ∀ b, b < w.heap.size → (∀ o k, G.cls b o = .own k → S.H k = none) → w'.heap[b]? = w.heap[b]?
  own : ∀ b, b < w.heap.size → ∀ o k, G'.cls b o = .own k → S'.H k ≠ none → ∃ k', G.cls b o = .own k' ∧ S.H k' ≠ none

theorem Ext.refl (G : Gh) (S : St) (w : World) : Ext G S w G S w where
  toLe := Le.refl G w
  os := rfl
  tape := rfl
  output := rfl
  size := Nat.le_refl _
  kept _ _ _ := rfl
  own _ _ _ k h h' := ⟨k, h, h'⟩

theorem Ext.trans {G1 G2 G3 : Gh} {S1 S2 S3 : St} {w1 w2 w3 : World} (h : Ext G1 S1 w1 G2 S2 w2) (k : Ext G2 S2 w2 G3 S3 w3) : Ext G1 S1 w1 G3 S3 w3 where
  toLe := h.toLe.trans k.toLe
  os := k.os.trans h.os
  tape := k.tape.trans h.tape
  output := k.output.trans h.output
  size := Nat.le_trans h.size k.size
  kept b hb hn := by
    rw [k.kept b (Nat.lt_of_lt_of_le hb h.size) ?_, h.kept b hb hn]
    intro o i hi
    by_cases hs : S2.H i = none
    · exact hs
    · obtain ⟨k', h1, h2⟩ := h.own b hb o i hi hs
      exact absurd (hn o k' h1) h2
  own b hb o i h1 h2 := by
    obtain ⟨k', h3, h4⟩ := k.own b (Nat.lt_of_lt_of_le hb h.size) o i h1 h2
    exact h.own b hb o k' h3 h4

end Go.Cw
