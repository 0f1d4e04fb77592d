/- S15, S16 in one text. -/
import Derived.Outline
import Derived.Test.YtbhdgeoljlhmcaaQB6
import Derived.Test.YtbhdgeoljlhmcaaShelf
/- The store as plain data: names, buffers, what an operation does; and how it lies in memory. -/
namespace Go.Proofs.Ytbhdgeoljlhmcaa
open Go.RowKit Go.Proofs.Ytbhdgeoljlhmcaa.Nm Go.Proofs.Ytbhdgeoljlhmcaa.St
/-- a buffer: an array (kind 1), or a dictionary (kind 2) -/
structure Buf where
  kd : Int
  l : List ByteArray
  seed : Int
  t : Tab
/-- a store: of each name the number of its buffer, all buffers ever made, how many were made for others' sake -/
structure Sto where
  names : List (Option Nat)
  bufs : List Buf
  shared : Int
  /-- how many more were made than are kept -/
  off : Int
/-- how many buffers were made -/
def Sto.made (A : Sto) : Int := (A.bufs.length : Int) + A.off
def noBuf : Buf := ⟨0, [], 0, []⟩
def Sto.id (A : Sto) (n : Int) : Option Nat := (A.names[n.toNat]?).join
def Sto.at_ (A : Sto) (k : Nat) : Buf := A.bufs.getD k noBuf
def Sto.buf (A : Sto) (n : Int) : Buf := match A.id n with | none => noBuf | some k => A.at_ k
def refA (A : Sto) (o : OpV) : Int :=
  if formS o = false then 4 else
  if (useG o.kind).kind ≠ 0 ∧ (A.buf o.fr).kd ≠ (useG o.kind).kind then 141 else
  if ((useG o.kind).key = true ∧ 24 < o.key.size) ∨ (o.kind = 8 ∧ (o.n < 0 ∨ 2147483647 < o.n)) then 4 else
  if (o.kind = 4 ∨ o.kind = 5) ∧ (o.at_ < 0 ∨ ((A.buf o.fr).l.length : Int) ≤ o.at_) then 241 else
  if o.kind = 6 ∧ (o.at_ < 0 ∨ o.n < 0 ∨ ((A.buf o.fr).l.length : Int) < o.at_ ∨ ((A.buf o.fr).l.length : Int) - o.at_ < o.n) then 241 else
  if o.kind = 10 ∧ fnd (A.buf o.fr).seed (A.buf o.fr).t o.key < 0 then 250 else
  if o.kind = 3 ∧ 100 ≤ (A.buf o.fr).l.length then 2 else
  if o.kind = 9 ∧ 100 ≤ cn (A.buf o.fr).t ∧ fnd (A.buf o.fr).seed (A.buf o.fr).t o.key < 0 then 2 else 0
def Sto.fresh (A : Sto) (n : Int) (b : Buf) : Sto := ⟨A.names.set n.toNat (some A.bufs.length), A.bufs ++ [b], A.shared, A.off⟩
/-- whether another name refers to the buffer of a name -/
def Sto.others (A : Sto) (i : Nat) : Prop := ∃ j, j < 8 ∧ j ≠ i ∧ A.names[j]? = A.names[i]?
instance (A : Sto) (i : Nat) : Decidable (A.others i) := inferInstanceAs (Decidable (∃ j, j < 8 ∧ j ≠ i ∧ A.names[j]? = A.names[i]?))
/-- the store in which no other name refers to the buffer of a name -/
def Sto.own (A : Sto) (n : Int) : Sto := if A.others n.toNat then { A.fresh n (A.buf n) with shared := A.shared + 1 } else A
/-- the buffer of a name gets another content -/
def Sto.put (A : Sto) (n : Int) (b : Buf) : Sto := match A.id n with | none => A | some k => { A with bufs := A.bufs.set k b }
def Sto.change (A : Sto) (n : Int) (b : Buf) : Sto := (A.own n).put n b
/-- a table with an entry's value changed -/
def setT (t : Tab) (i : Nat) (k : ByteArray) (v : Int) : Tab := t.set i (some (k, v))
def ltB (x y : ByteArray) : Bool := Op.bytesLess x.toList y.toList
/-- two lists merged -/
def mergeL : List ByteArray → List ByteArray → List ByteArray
  | [], b => b
  | x :: a, [] => x :: a
  | x :: a, y :: b => if ltB y x then y :: mergeL (x :: a) b else x :: mergeL a (y :: b)
termination_by a b => a.length + b.length
/-- a list sorted -/
def sortL (l : List ByteArray) : List ByteArray :=
  if h : l.length < 2 then l else mergeL (sortL (l.take (l.length / 2))) (sortL (l.drop (l.length / 2)))
termination_by l.length
decreasing_by
  · simp only [List.length_take]; omega
  · simp only [List.length_drop]; omega
/-- whether a list is sorted -/
def sortedB (l : List ByteArray) : Bool := Lib.downOK (fun x y => decide (x.data.toList < y.data.toList)) l.toArray (l.toArray.size - 1)
def Sto.does (A : Sto) (o : OpV) : Sto :=
  if o.kind = 1 then A.fresh o.to ⟨1, [], 0, []⟩ else
  if o.kind = 2 then { A with names := A.names.set o.to.toNat (A.id o.fr) } else
  if o.kind = 3 then A.change o.fr { A.buf o.fr with l := (A.buf o.fr).l ++ [o.key] } else
  if o.kind = 4 then (if (A.buf o.fr).l.getD o.at_.toNat ByteArray.empty = o.key then A else A.change o.fr { A.buf o.fr with l := (A.buf o.fr).l.set o.at_.toNat o.key }) else
  if o.kind = 5 then A.change o.fr { A.buf o.fr with l := (A.buf o.fr).l.eraseIdx o.at_.toNat } else
  if o.kind = 6 then A.fresh o.to ⟨1, ((A.buf o.fr).l.drop o.at_.toNat).take o.n.toNat, 0, []⟩ else
  if o.kind = 7 then (if sortedB (A.buf o.fr).l then A else A.change o.fr { A.buf o.fr with l := sortL (A.buf o.fr).l }) else
  if o.kind = 8 then A.fresh o.to ⟨2, [], o.n, List.replicate 4 none⟩ else
  if o.kind = 9 then
    (match findT (HH (A.buf o.fr).seed) (A.buf o.fr).t o.key with
    | none => A.change o.fr { A.buf o.fr with t := addT (HH (A.buf o.fr).seed) (A.buf o.fr).t o.key o.n }
    | some i => if ev (pl (A.buf o.fr).t i) = o.n then A else A.change o.fr { A.buf o.fr with t := setT (A.buf o.fr).t i o.key o.n }) else
  if o.kind = 10 then
    (match findT (HH (A.buf o.fr).seed) (A.buf o.fr).t o.key with
    | none => A
    | some i => A.change o.fr { A.buf o.fr with t := removeT (HH (A.buf o.fr).seed) (A.buf o.fr).t i }) else
  A.fresh o.to ⟨1, (pairsT (A.buf o.fr).t).map (·.1), 0, []⟩
/-- an operation: its error, and the store behind it -/
def doA (A : Sto) (o : OpV) : Sto := if refA A o = 0 then A.does o else A
/-- a buffer as the program makes them -/
def GoodB (b : Buf) : Prop := (b.kd = 1 ∧ b.seed = 0 ∧ b.t = [] ∧ b.l.length ≤ 100) ∨ (b.kd = 2 ∧ 0 ≤ b.seed ∧ b.seed ≤ 2147483647 ∧ b.l = [] ∧ Wf (HH b.seed) b.t ∧ Short b.t ∧ 4 ≤ b.t.length ∧ b.t.length ≤ 264 ∧ cn b.t ≤ 100)
structure Good (A : Sto) : Prop where
  eight : A.names.length = 8
  there : ∀ (i k : Nat), A.names[i]? = some (some k) → k < A.bufs.length
  bufs : ∀ (k : Nat) (b : Buf), A.bufs[k]? = some b → GoodB b
  off : 0 ≤ A.made ∧ A.off ≤ 1000
theorem GoodB.len {b : Buf} (h : GoodB b) : b.l.length ≤ 100 ∧ b.t.length ≤ 264 := by
  rcases h with ⟨_, _, h, _⟩ | ⟨_, _, _, h, _⟩ <;> simp_all
/-- where a buffer lies -/
structure Row where
  g : Nat
  lv : Value
  pv : Value
def BufAt (w : World) (r : Row) (b : Buf) : Prop :=
  w.heap[r.g]? = some (.cells (bcells b.kd r.lv b.seed (cn b.t : Int) r.pv) 87 (0, 0)) ∧ w.ownsRow 0 9 1 r.lv b.l.length (strs b.l) ∧ w.ownsRow 0 95 3 r.pv b.t.length (tcells b.t) ∧ (b.t = [] → r.pv = .slice none 0 0)
def noRow : Row := ⟨0, .slice none 0 0, .slice none 0 0⟩
def gAt (rs : List Row) (k : Nat) : Nat := (rs.getD k noRow).g
def nsOf (A : Sto) (rs : List Row) : List (Option Nat) := A.names.map fun o => o.map fun k => gAt rs k
structure StoreAt (w : World) (s : Nat) (A : Sto) (rs : List Row) : Prop where
  main : w.heap[s]? = some (.cells (scells (nsOf A rs) A.made A.shared) 83 (0, 0))
  len : rs.length = A.bufs.length
  rows : ∀ (k : Nat) (r : Row) (b : Buf), rs[k]? = some r → A.bufs[k]? = some b → BufAt w r b
  gs : ∀ (j k : Nat) (r r' : Row), rs[j]? = some r → rs[k]? = some r' → r.g = r'.g → j = k
  ls : ∀ (j k : Nat) (r r' : Row) (q : Nat), rs[j]? = some r → rs[k]? = some r' → r.lv.ownBlock = some q → r'.lv.ownBlock = some q → j = k
  ps : ∀ (j k : Nat) (r r' : Row) (q : Nat), rs[j]? = some r → rs[k]? = some r' → r.pv.ownBlock = some q → r'.pv.ownBlock = some q → j = k
theorem own_block {w : World} {b n : Nat} {e : TypeId} {size : Nat} {v : Value} {xs : List Value} (h : w.ownsRow b e size v n xs) {q : Nat} (hq : v.ownBlock = some q) : b ≤ q ∧ ∃ cur, w.heap[q]? = some (.cells cur e (0, 0)) := by
  rcases h.2 with ⟨rfl, _⟩ | ⟨g, cap, cur, rfl, hB, hg, _⟩
  · simp [Value.ownBlock] at hq
  · simp [Value.ownBlock] at hq; subst hq; exact ⟨hB, _, hg⟩
theorem BufAt.same {w w' : World} {r : Row} {b : Buf} (h : BufAt w r b) (hs : ∀ q, q < w.heap.size → q = r.g ∨ r.lv.ownBlock = some q ∨ r.pv.ownBlock = some q → w'.heap[q]? = w.heap[q]?) : BufAt w' r b :=
  ⟨by rw [hs _ (heap_lt h.1) (Or.inl rfl)]; exact h.1, own_same h.2.1 (fun q hq he => hs q hq (Or.inr (Or.inl he))), own_same h.2.2.1 (fun q hq he => hs q hq (Or.inr (Or.inr he))), h.2.2.2⟩
/-- a block of a store -/
def Foot (s : Nat) (rs : List Row) (q : Nat) : Prop := q = s ∨ ∃ (k : Nat) (r : Row), rs[k]? = some r ∧ (q = r.g ∨ r.lv.ownBlock = some q ∨ r.pv.ownBlock = some q)
theorem StoreAt.same {w w' : World} {s : Nat} {A : Sto} {rs : List Row} (h : StoreAt w s A rs) (hs : ∀ q, q < w.heap.size → Foot s rs q → w'.heap[q]? = w.heap[q]?) : StoreAt w' s A rs :=
  ⟨by rw [hs _ (heap_lt h.main) (Or.inl rfl)]; exact h.main, h.len, fun k r b hr hb => (h.rows k r b hr hb).same (fun q hq he => hs q hq (Or.inr ⟨k, r, hr, he⟩)), h.gs, h.ls, h.ps⟩
theorem StoreAt.below {w w' : World} {s : Nat} {A : Sto} {rs : List Row} (h : StoreAt w s A rs) (hb : Below w.heap.size w w') : StoreAt w' s A rs := h.same (fun q hq _ => hb.block q hq)
theorem StoreAt.lt {w : World} {s : Nat} {A : Sto} {rs : List Row} (h : StoreAt w s A rs) {q : Nat} (hf : Foot s rs q) : q < w.heap.size := by
  rcases hf with rfl | ⟨k, r, hr, hq⟩
  · exact heap_lt h.main
  · have hk := (List.getElem?_eq_some_iff.1 hr).1
    obtain ⟨b, hb⟩ : ∃ b, A.bufs[k]? = some b := ⟨_, List.getElem?_eq_getElem (by rw [← h.len]; exact hk)⟩
    have hB := h.rows k r b hr hb
    rcases hq with rfl | hq | hq
    · exact heap_lt hB.1
    · obtain ⟨_, cur, hc⟩ := own_block hB.2.1 hq; exact heap_lt hc
    · obtain ⟨_, cur, hc⟩ := own_block hB.2.2.1 hq; exact heap_lt hc
theorem gAt_eq {rs : List Row} {k : Nat} {r : Row} (h : rs[k]? = some r) : gAt rs k = r.g := by unfold gAt; rw [List.getD_eq_getElem?_getD, h]; rfl
theorem nsOf_get {A : Sto} {rs : List Row} {i : Nat} {o : Option Nat} (h : A.names[i]? = some o) : (nsOf A rs)[i]? = some (o.map fun k => gAt rs k) := by unfold nsOf; rw [List.getElem?_map, h]; rfl
theorem nsOf_length (A : Sto) (rs : List Row) : (nsOf A rs).length = A.names.length := by simp [nsOf]
theorem id_names {A : Sto} (hA : Good A) {n : Int} (h0 : 0 ≤ n) (h8 : n < 8) : A.names[n.toNat]? = some (A.id n) := by
  have hl : n.toNat < A.names.length := by rw [hA.eight]; omega
  unfold Sto.id
  rw [List.getElem?_eq_getElem hl]; rfl
/-- the row of a name that refers to a buffer -/
theorem StoreAt.row {w : World} {s : Nat} {A : Sto} {rs : List Row} (h : StoreAt w s A rs) (hA : Good A) {n : Int} {k : Nat} (hk : A.id n = some k) :
    ∃ r, rs[k]? = some r ∧ A.bufs[k]? = some (A.buf n) ∧ BufAt w r (A.buf n) ∧ GoodB (A.buf n) ∧ (nsOf A rs)[n.toNat]? = some (some r.g) := by
  have hn : A.names[n.toNat]? = some (some k) := by
    unfold Sto.id at hk
    cases hq : A.names[n.toNat]? with
    | none => rw [hq] at hk; simp at hk
    | some o => rw [hq] at hk; simp at hk; rw [hk]
  have hl := hA.there _ _ hn
  have hb : A.bufs[k]? = some (A.buf n) := by unfold Sto.buf; rw [hk]; show A.bufs[k]? = some (A.bufs.getD k noBuf); rw [List.getD_eq_getElem?_getD, List.getElem?_eq_getElem hl]; rfl
  obtain ⟨r, hr⟩ : ∃ r, rs[k]? = some r := ⟨_, List.getElem?_eq_getElem (by rw [h.len]; exact hl)⟩
  exact ⟨r, hr, hb, h.rows k r _ hr hb, hA.bufs _ _ hb, by rw [nsOf_get hn]; simp [gAt_eq hr]⟩
theorem buf_none {A : Sto} {n : Int} (h : A.id n = none) : A.buf n = noBuf := by unfold Sto.buf; rw [h]
/-- what one buffer's change does to the store -/
theorem StoreAt.mod {w w' : World} {s : Nat} {A : Sto} {rs : List Row} (h : StoreAt w s A rs) {k : Nat} {r r' : Row} {b b' : Buf} (hr : rs[k]? = some r) (hb : A.bufs[k]? = some b)
    (hs : ∀ q, q < w.heap.size → q ≠ r.g → r.lv.ownBlock ≠ some q → r.pv.ownBlock ≠ some q → w'.heap[q]? = w.heap[q]?) (hg : r'.g = r.g)
    (hl : r'.lv.ownBlock = r.lv.ownBlock ∨ ∀ q, r'.lv.ownBlock = some q → w.heap.size ≤ q) (hp : r'.pv.ownBlock = r.pv.ownBlock ∨ ∀ q, r'.pv.ownBlock = some q → w.heap.size ≤ q) (hB : BufAt w' r' b') :
    StoreAt w' s { A with bufs := A.bufs.set k b' } (rs.set k r') := by
  have hk := (List.getElem?_eq_some_iff.1 hr).1
  have hkb := (List.getElem?_eq_some_iff.1 hb).1
  have hB0 := h.rows k r b hr hb
  have oth : ∀ (j : Nat) (x : Row), j ≠ k → (rs.set k r')[j]? = some x → rs[j]? = some x := fun j x hj hx => by rw [List.getElem?_set_ne (Ne.symm hj)] at hx; exact hx
  have slf : ∀ (x : Row), (rs.set k r')[k]? = some x → x = r' := fun x hx => by rw [List.getElem?_set_self hk] at hx; cases hx; rfl
  have hsg : ∀ (q : Nat) (cur : Array Value) (t : TypeId), w.heap[q]? = some (.cells cur t (0, 0)) → q = r.g → t = 87 := fun q cur t hc e => by rw [e, hB0.1] at hc; cases hc; rfl
  have hsl : ∀ (q : Nat) (cur : Array Value) (t : TypeId), w.heap[q]? = some (.cells cur t (0, 0)) → r.lv.ownBlock = some q → t = 9 := fun q cur t hc e => by
    obtain ⟨_, c, h1⟩ := own_block hB0.2.1 e; rw [h1] at hc; cases hc; rfl
  have hsp : ∀ (q : Nat) (cur : Array Value) (t : TypeId), w.heap[q]? = some (.cells cur t (0, 0)) → r.pv.ownBlock = some q → t = 95 := fun q cur t hc e => by
    obtain ⟨_, c, h1⟩ := own_block hB0.2.2.1 e; rw [h1] at hc; cases hc; rfl
  have hrow : ∀ (j : Nat) (x : Row) (y : Buf), j ≠ k → rs[j]? = some x → A.bufs[j]? = some y → BufAt w' x y := fun j x y hj hx hy => by
    have hX := h.rows j x y hx hy
    refine hX.same (fun q hq he => ?_)
    have hc : ∃ (cur : Array Value) (t : TypeId), w.heap[q]? = some (.cells cur t (0, 0)) ∧ ((t = 87 ∧ q = x.g) ∨ (t = 9 ∧ x.lv.ownBlock = some q) ∨ (t = 95 ∧ x.pv.ownBlock = some q)) := by
      rcases he with rfl | e | e
      · exact ⟨_, _, hX.1, Or.inl ⟨rfl, rfl⟩⟩
      · obtain ⟨_, c, h1⟩ := own_block hX.2.1 e; exact ⟨_, _, h1, Or.inr (Or.inl ⟨rfl, e⟩)⟩
      · obtain ⟨_, c, h1⟩ := own_block hX.2.2.1 e; exact ⟨_, _, h1, Or.inr (Or.inr ⟨rfl, e⟩)⟩
    obtain ⟨cur, t, h1, h2⟩ := hc
    refine hs q hq ?_ ?_ ?_
    · intro e
      have := hsg q cur t h1 e
      rcases h2 with ⟨_, e2⟩ | ⟨e2, _⟩ | ⟨e2, _⟩
      · exact hj (h.gs j k x r hx hr (by rw [← e2, e]))
      · subst this; cases e2
      · subst this; cases e2
    · intro e
      have := hsl q cur t h1 e
      rcases h2 with ⟨e2, _⟩ | ⟨_, e2⟩ | ⟨e2, _⟩
      · subst this; cases e2
      · exact hj (h.ls j k x r q hx hr e2 e)
      · subst this; cases e2
    · intro e
      have := hsp q cur t h1 e
      rcases h2 with ⟨e2, _⟩ | ⟨e2, _⟩ | ⟨_, e2⟩
      · subst this; cases e2
      · subst this; cases e2
      · exact hj (h.ps j k x r q hx hr e2 e)
  have hlive : ∀ (j : Nat) (x : Row) (q : Nat), rs[j]? = some x → (x.lv.ownBlock = some q ∨ x.pv.ownBlock = some q) → q < w.heap.size := fun j x q hx hq => h.lt (Or.inr ⟨j, x, hx, Or.inr hq⟩)
  have hng : nsOf { A with bufs := A.bufs.set k b' } (rs.set k r') = nsOf A rs := by
    unfold nsOf
    refine congrArg (fun f => A.names.map f) ?_
    funext o
    refine congrArg (fun f => o.map f) ?_
    funext x
    by_cases e : x = k
    · subst e; rw [gAt_eq (List.getElem?_set_self hk), hg, gAt_eq hr]
    · unfold gAt; rw [List.getD_eq_getElem?_getD, List.getD_eq_getElem?_getD, List.getElem?_set_ne (Ne.symm e)]
  refine ⟨?_, by simpa using h.len, ?_, ?_, ?_, ?_⟩
  · rw [hng]
    have hm := h.main
    rw [hs s (heap_lt hm) (fun e => by have := hsg s _ _ hm e; cases this) (fun e => by have := hsl s _ _ hm e; cases this) (fun e => by have := hsp s _ _ hm e; cases this)]
    rw [show ({ A with bufs := A.bufs.set k b' } : Sto).made = A.made by simp [Sto.made]]
    exact hm
  · intro j x y hx hy
    by_cases e : j = k
    · subst e
      have e1 := slf x hx
      simp only [List.getElem?_set_self hkb, Option.some.injEq] at hy
      subst e1 hy
      exact hB
    · simp only [List.getElem?_set_ne (Ne.symm e)] at hy
      exact hrow j x y e (oth j x e hx) hy
  · intro i j x y hx hy e
    by_cases e1 : i = k
    · by_cases e2 : j = k
      · omega
      · subst e1
        rw [slf x hx, hg] at e
        exact absurd (h.gs i j r y hr (oth j y e2 hy) e) (Ne.symm e2)
    · by_cases e2 : j = k
      · subst e2
        rw [slf y hy, hg] at e
        exact absurd (h.gs i j x r (oth i x e1 hx) hr e) e1
      · exact h.gs i j x y (oth i x e1 hx) (oth j y e2 hy) e
  · intro i j x y q hx hy e e'
    by_cases e1 : i = k
    · by_cases e2 : j = k
      · omega
      · subst e1
        have h0 := slf x hx
        subst h0
        rcases hl with hl | hl
        · exact absurd (h.ls i j r y q hr (oth j y e2 hy) (by rw [← hl]; exact e) e') (Ne.symm e2)
        · have := hl q e; have := hlive j y q (oth j y e2 hy) (Or.inl e'); omega
    · by_cases e2 : j = k
      · subst e2
        have h0 := slf y hy
        subst h0
        rcases hl with hl | hl
        · exact absurd (h.ls i j x r q (oth i x e1 hx) hr e (by rw [← hl]; exact e')) e1
        · have := hl q e'; have := hlive i x q (oth i x e1 hx) (Or.inl e); omega
      · exact h.ls i j x y q (oth i x e1 hx) (oth j y e2 hy) e e'
  · intro i j x y q hx hy e e'
    by_cases e1 : i = k
    · by_cases e2 : j = k
      · omega
      · subst e1
        have h0 := slf x hx
        subst h0
        rcases hp with hp | hp
        · exact absurd (h.ps i j r y q hr (oth j y e2 hy) (by rw [← hp]; exact e) e') (Ne.symm e2)
        · have := hp q e; have := hlive j y q (oth j y e2 hy) (Or.inr e'); omega
    · by_cases e2 : j = k
      · subst e2
        have h0 := slf y hy
        subst h0
        rcases hp with hp | hp
        · exact absurd (h.ps i j x r q (oth i x e1 hx) hr e (by rw [← hp]; exact e')) e1
        · have := hp q e'; have := hlive i x q (oth i x e1 hx) (Or.inr e); omega
      · exact h.ps i j x y q (oth i x e1 hx) (oth j y e2 hy) e e'
/-- a new buffer under a name -/
theorem StoreAt.fresh {w w' : World} {s : Nat} {A : Sto} {rs : List Row} (h : StoreAt w s A rs) {n : Int} {r : Row} {b : Buf} {sh : Int} (hk : Kept [s] w w') (hB : BufAt w' r b) (hg : w.heap.size ≤ r.g)
    (hl : ∀ q, r.lv.ownBlock = some q → w.heap.size ≤ q) (hp : ∀ q, r.pv.ownBlock = some q → w.heap.size ≤ q) (hA : Good A)
    (hm : w'.heap[s]? = some (.cells (scells ((nsOf A rs).set n.toNat (some r.g)) (A.made + 1) sh) 83 (0, 0))) :
    StoreAt w' s { A.fresh n b with shared := sh } (rs ++ [r]) := by
  have hlen := h.len
  have hold : ∀ (j : Nat) (x : Row), j < rs.length → (rs ++ [r])[j]? = some x → rs[j]? = some x := fun j x hj hx => by rwa [List.getElem?_append_left hj] at hx
  have hnew : ∀ (j : Nat) (x : Row), ¬ j < rs.length → (rs ++ [r])[j]? = some x → j = rs.length ∧ x = r := fun j x hj hx => by
    rw [List.getElem?_append_right (by omega)] at hx
    rcases (show j - rs.length = 0 ∨ 0 < j - rs.length by omega) with e | e
    · rw [e] at hx; simp at hx; exact ⟨by omega, hx.symm⟩
    · rw [List.getElem?_eq_none (by simp; omega)] at hx; cases hx
  have hsame : ∀ (q : Nat), q < w.heap.size → q ≠ s → w'.heap[q]? = w.heap[q]? := fun q hq hne => hk.block q hq (by simpa using hne)
  have hns : nsOf { A.fresh n b with shared := sh } (rs ++ [r]) = (nsOf A rs).set n.toNat (some r.g) := by
    unfold nsOf Sto.fresh
    apply List.ext_getElem?
    intro i
    simp only [List.getElem?_map, List.getElem?_set, List.length_map]
    by_cases e : n.toNat = i
    · simp only [e, if_true]
      by_cases e2 : i < A.names.length
      · simp only [e2, if_true]
        show some (some (gAt (rs ++ [r]) A.bufs.length)) = some (some r.g)
        rw [show gAt (rs ++ [r]) A.bufs.length = r.g from gAt_eq (by rw [← hlen]; simp)]
      · simp only [e2, if_false]; rfl
    · simp only [e, if_false]
      cases hq : A.names[i]? with
      | none => rfl
      | some o =>
        cases o with
        | none => rfl
        | some k =>
          have := hA.there i k hq
          show some (some (gAt (rs ++ [r]) k)) = some (some (gAt rs k))
          unfold gAt
          rw [List.getD_eq_getElem?_getD, List.getD_eq_getElem?_getD, List.getElem?_append_left (by omega)]
  have hty : ∀ (j : Nat) (x : Row), rs[j]? = some x → x.g ≠ s ∧ x.lv.ownBlock ≠ some s ∧ x.pv.ownBlock ≠ some s := fun j x hx => by
    have hj := (List.getElem?_eq_some_iff.1 hx).1
    have hX := h.rows j x _ hx (List.getElem?_eq_getElem (show j < A.bufs.length by omega))
    have hm0 := h.main
    refine ⟨fun e => ?_, fun e => ?_, fun e => ?_⟩
    · have := hX.1; rw [e, hm0] at this; simp only [Option.some.injEq, Obj.cells.injEq] at this; exact absurd this.2.1 (by decide)
    · obtain ⟨_, c, h1⟩ := own_block hX.2.1 e; rw [hm0] at h1; simp only [Option.some.injEq, Obj.cells.injEq] at h1; exact absurd h1.2.1 (by decide)
    · obtain ⟨_, c, h1⟩ := own_block hX.2.2.1 e; rw [hm0] at h1; simp only [Option.some.injEq, Obj.cells.injEq] at h1; exact absurd h1.2.1 (by decide)
  refine ⟨?_, by simp [Sto.fresh, hlen], ?_, ?_, ?_, ?_⟩
  · rw [hns, show ({ A.fresh n b with shared := sh } : Sto).made = A.made + 1 by simp [Sto.made, Sto.fresh]; omega]; exact hm
  · intro j x y hx hy
    by_cases e : j < rs.length
    · have hx' := hold j x e hx
      obtain ⟨t1, t2, t3⟩ := hty j x hx'
      simp only [Sto.fresh, List.getElem?_append_left (show j < A.bufs.length by omega)] at hy
      refine (h.rows j x y hx' hy).same (fun q hq he => hsame q hq ?_)
      rcases he with rfl | e2 | e2
      · exact t1
      · intro e3; exact t2 (by rw [← e3]; exact e2)
      · intro e3; exact t3 (by rw [← e3]; exact e2)
    · obtain ⟨e1, e2⟩ := hnew j x e hx
      subst e2
      simp only [Sto.fresh, e1, hlen, List.getElem?_append_right (Nat.le_refl _), Nat.sub_self, List.getElem?_cons_zero, Option.some.injEq] at hy
      subst hy
      exact hB
  · intro i j x y hx hy e
    by_cases e1 : i < rs.length
    · by_cases e2 : j < rs.length
      · exact h.gs i j x y (hold i x e1 hx) (hold j y e2 hy) e
      · obtain ⟨_, e3⟩ := hnew j y e2 hy
        have := h.lt (Or.inr ⟨i, x, hold i x e1 hx, Or.inl rfl⟩); rw [e, e3] at this; omega
    · obtain ⟨e0, e3⟩ := hnew i x e1 hx
      by_cases e2 : j < rs.length
      · have := h.lt (Or.inr ⟨j, y, hold j y e2 hy, Or.inl rfl⟩); rw [← e, e3] at this; omega
      · obtain ⟨e4, _⟩ := hnew j y e2 hy; omega
  · intro i j x y q hx hy e e'
    by_cases e1 : i < rs.length
    · by_cases e2 : j < rs.length
      · exact h.ls i j x y q (hold i x e1 hx) (hold j y e2 hy) e e'
      · obtain ⟨_, e3⟩ := hnew j y e2 hy
        have := h.lt (Or.inr ⟨i, x, hold i x e1 hx, Or.inr (Or.inl e)⟩); rw [e3] at e'; have := hl q e'; omega
    · obtain ⟨e0, e3⟩ := hnew i x e1 hx
      by_cases e2 : j < rs.length
      · have := h.lt (Or.inr ⟨j, y, hold j y e2 hy, Or.inr (Or.inl e')⟩); rw [e3] at e; have := hl q e; omega
      · obtain ⟨e4, _⟩ := hnew j y e2 hy; omega
  · intro i j x y q hx hy e e'
    by_cases e1 : i < rs.length
    · by_cases e2 : j < rs.length
      · exact h.ps i j x y q (hold i x e1 hx) (hold j y e2 hy) e e'
      · obtain ⟨_, e3⟩ := hnew j y e2 hy
        have := h.lt (Or.inr ⟨i, x, hold i x e1 hx, Or.inr (Or.inr e)⟩); rw [e3] at e'; have := hp q e'; omega
    · obtain ⟨e0, e3⟩ := hnew i x e1 hx
      by_cases e2 : j < rs.length
      · have := h.lt (Or.inr ⟨j, y, hold j y e2 hy, Or.inr (Or.inr e')⟩); rw [e3] at e; have := hp q e; omega
      · obtain ⟨e4, _⟩ := hnew j y e2 hy; omega
/-- only a store's own blocks change, and it takes none but its own and new ones -/
structure Ran (s : Nat) (rs : List Row) (w : World) (rs' : List Row) (w' : World) : Prop where
  size : w.heap.size ≤ w'.heap.size
  block : ∀ (k : Nat), k < w.heap.size → ¬ Foot s rs k → w'.heap[k]? = w.heap[k]?
  os : w'.os = w.os
  tape : w'.tape = w.tape
  output : w'.output = w.output
  foot : ∀ (q : Nat), Foot s rs' q → Foot s rs q ∨ w.heap.size ≤ q
theorem Ran.of {s : Nat} {rs rs' : List Row} {w w' : World} {D : List Nat} (h : Kept D w w') (hd : ∀ q ∈ D, Foot s rs q ∨ w.heap.size ≤ q) (hf : ∀ (q : Nat), Foot s rs' q → Foot s rs q ∨ w.heap.size ≤ q) : Ran s rs w rs' w' :=
  ⟨h.size, fun k hk hn => h.block k hk (fun hm => (hd k hm).elim hn (fun e => by omega)), h.os, h.tape, h.output, hf⟩
theorem Ran.trans {s : Nat} {rs rs1 rs2 : List Row} {w w1 w2 : World} (h : Ran s rs w rs1 w1) (h2 : Ran s rs1 w1 rs2 w2) : Ran s rs w rs2 w2 :=
  ⟨Nat.le_trans h.size h2.size, fun k hk hn => by
    rw [h2.block k (Nat.lt_of_lt_of_le hk h.size) (fun hf => (h.foot k hf).elim hn (fun e => by omega))]; exact h.block k hk hn, h2.os.trans h.os, h2.tape.trans h.tape, h2.output.trans h.output,
    fun q hq => (h2.foot q hq).elim (h.foot q) (fun e => Or.inr (Nat.le_trans h.size e))⟩
theorem Ran.refl (s : Nat) (rs : List Row) (w : World) : Ran s rs w rs w := ⟨Nat.le_refl _, fun _ _ _ => rfl, rfl, rfl, rfl, fun _ h => Or.inl h⟩
theorem Ran.ofBelow {s : Nat} {rs : List Row} {w w' : World} (h : Below w.heap.size w w') : Ran s rs w rs w' := ⟨h.size, fun k hk _ => h.block k hk, h.os, h.tape, h.output, fun _ h => Or.inl h⟩
theorem foot_row {s k : Nat} {rs : List Row} {r : Row} (h : rs[k]? = some r) : Foot s rs r.g := Or.inr ⟨k, r, h, Or.inl rfl⟩
theorem foot_push {s q : Nat} {rs : List Row} {r : Row} (h : Foot s (rs ++ [r]) q) : Foot s rs q ∨ q = r.g ∨ r.lv.ownBlock = some q ∨ r.pv.ownBlock = some q := by
  rcases h with rfl | ⟨k, x, hx, hq⟩
  · exact Or.inl (Or.inl rfl)
  · by_cases e : k < rs.length
    · rw [List.getElem?_append_left e] at hx; exact Or.inl (Or.inr ⟨k, x, hx, hq⟩)
    · rw [List.getElem?_append_right (by omega)] at hx
      have := List.mem_of_getElem? hx
      simp at this; subst this; exact Or.inr hq
theorem foot_set {s q k : Nat} {rs : List Row} {r : Row} (h : Foot s (rs.set k r) q) : Foot s rs q ∨ q = r.g ∨ r.lv.ownBlock = some q ∨ r.pv.ownBlock = some q := by
  rcases h with rfl | ⟨j, x, hx, hq⟩
  · exact Or.inl (Or.inl rfl)
  · by_cases e : k = j
    · subst e
      have hl := (List.getElem?_eq_some_iff.1 hx).1
      rw [List.getElem?_set_self (by simpa using hl)] at hx; cases hx; exact Or.inr hq
    · rw [List.getElem?_set_ne e] at hx; exact Or.inl (Or.inr ⟨j, x, hx, hq⟩)
theorem kind_at (s : Nat) (A : Sto) (rs : List Row) (hA : Good A) (n : Int) (h0 : 0 ≤ n) (h8 : n < 8) (w : World) (h : StoreAt w s A rs) :
    Calls Try.prog 76 #[.pointer (some ⟨s, 0, none⟩), .int .i64 n] w fun e w' => e = .returned (.int .i64 (A.buf n).kd) ∧ Below w.heap.size w w' := by
  have hn := nsOf_get (rs := rs) (id_names hA h0 h8)
  have hi : (n.toNat : Int) = n := by omega
  rw [← hi]
  refine kindOf_any s (nsOf A rs) _ _ (by rw [nsOf_length]; exact hA.eight) n.toNat _ hn _ w h.main ?_ ?_
  · intro g hg
    cases hq : A.id n with
    | none => rw [hq] at hg; cases hg
    | some k =>
      rw [hi]
      obtain ⟨r, hr, _, hB, _, hns⟩ := h.row hA hq
      rw [hq] at hg
      simp only [Option.map_some, gAt_eq hr, Option.some.injEq] at hg
      subst hg
      exact (bc_cell hB.1).1
  · intro hg
    cases hq : A.id n with
    | none => rw [hi, buf_none hq]; rfl
    | some k => rw [hq] at hg; cases hg
theorem own_str {w : World} {b n : Nat} {v : Value} {l : List ByteArray} (h : w.ownsRow b 9 1 v n (strs l)) (hl : l.length = n) : ∃ A cap, v = .slice A n cap ∧ StrAt w A n cap l := by
  rcases h.2 with ⟨rfl, h0⟩ | ⟨g, cap, cur, rfl, hB, hg, h1, h2, h3, h4⟩
  · subst h0; exact ⟨none, 0, rfl, hl, Or.inl ⟨rfl, rfl, rfl⟩⟩
  · refine ⟨_, cap, rfl, hl, Or.inr ⟨_, rfl, fun j u hj => ?_⟩⟩
    have hj2 : j < n := by have := (List.getElem?_eq_some_iff.1 hj).1; rw [strs_length] at this; omega
    rw [show ((⟨g, 0, none⟩ : Addr).add j) = ⟨g, j, none⟩ by rw [Addr.add_mid]; simp, cell_of_row _ _ _ _ _ _ hg, ← Array.getElem?_toList]
    rw [← h4, List.getElem?_take_of_lt (by omega)] at hj
    exact hj
theorem own_vt {w : World} {b : Nat} {v : Value} {t : Tab} (h : w.ownsRow b 95 3 v t.length (tcells t)) (hn : t = [] → v = .slice none 0 0) : ∃ A cap, v = .slice A t.length cap ∧ VT b w A cap t := by
  by_cases e : t = []
  · subst e; exact ⟨none, 0, hn rfl, Or.inl ⟨rfl, rfl, rfl⟩⟩
  · have hl : 1 ≤ t.length := by cases t with
      | nil => exact absurd rfl e
      | cons x t => simp
    obtain ⟨p, cap, h1, h2, h3⟩ := own_pl h hl
    exact ⟨_, cap, h1, Or.inr ⟨p, rfl, h2, hl, h3⟩⟩
theorem buf_of {A : Sto} {n : Int} {k : Nat} {b : Buf} (h1 : A.id n = some k) (h2 : A.bufs[k]? = some b) : A.buf n = b := by
  unfold Sto.buf; rw [h1]; show A.bufs.getD k noBuf = b; rw [List.getD_eq_getElem?_getD, h2]; rfl
theorem GoodB.no : Good ⟨List.replicate 8 none, [], 0, 0⟩ := ⟨by simp, fun i k h => by have := List.mem_of_getElem? h; simp at this, fun k b h => by simp at h, by decide, by decide⟩
theorem good_fresh {A : Sto} (hA : Good A) (n : Int) {b : Buf} (hb : GoodB b) (sh : Int) : Good { A.fresh n b with shared := sh } := by
  refine ⟨by simp [Sto.fresh, hA.eight], fun i k h => ?_, fun k x h => ?_, ⟨by have := hA.off.1; unfold Sto.made at this ⊢; simp only [Sto.fresh, List.length_append, List.length_singleton]; omega, hA.off.2⟩⟩
  · simp only [Sto.fresh, List.getElem?_set, List.length_append, List.length_singleton] at h ⊢
    split at h
    · split at h
      · cases h; omega
      · cases h
    · have := hA.there i k h; omega
  · simp only [Sto.fresh] at h
    by_cases e : k < A.bufs.length
    · rw [List.getElem?_append_left e] at h; exact hA.bufs k x h
    · rw [List.getElem?_append_right (by omega)] at h
      have := List.mem_of_getElem? h
      simp at this; subst this; exact hb
theorem good_own {A : Sto} (hA : Good A) {n : Int} (hb : GoodB (A.buf n)) : Good (A.own n) := by
  unfold Sto.own
  split
  · exact good_fresh hA n hb _
  · exact hA
theorem good_put {A : Sto} (hA : Good A) {n : Int} {b : Buf} (hb : GoodB b) : Good (A.put n b) := by
  unfold Sto.put
  split
  · exact hA
  · refine ⟨hA.eight, fun i k h => ?_, fun k x h => ?_, ⟨by have := hA.off.1; unfold Sto.made at this ⊢; simpa using this, hA.off.2⟩⟩
    · have := hA.there i k h; simpa using this
    · rename_i j _
      simp only [List.getElem?_set] at h
      split at h
      · split at h
        · cases h; exact hb
        · cases h
      · exact hA.bufs k x h
set_option maxRecDepth 100000 in
/-- own: the name's buffer is its own -/
theorem own_at (s : Nat) (A : Sto) (rs : List Row) (hA : Good A) (n : Int) (h0 : 0 ≤ n) (h8 : n < 8) (k : Nat) (hk : A.id n = some k) (hm : A.bufs.length ≤ 100000) (hs0 : 0 ≤ A.shared) (hs1 : A.shared ≤ 100000) (w : World) (h : StoreAt w s A rs) :
    Calls Try.prog 52 #[.pointer (some ⟨s, 0, none⟩), .int .i64 n] w fun e w' => ∃ rs' k' r', e = .returned (.pointer (some ⟨r'.g, 0, none⟩)) ∧ StoreAt w' s (A.own n) rs' ∧ (A.own n).id n = some k' ∧ rs'[k']? = some r' ∧ (A.own n).bufs[k']? = some (A.buf n) ∧ Ran s rs w rs' w' := by
  obtain ⟨r, hr, hb, hB, hG, hns⟩ := h.row hA hk
  have hi : (n.toNat : Int) = n := by omega
  obtain ⟨hb0, hl, ht, hnil⟩ := hB
  obtain ⟨A1, c1, e1, hl1⟩ := own_str hl rfl
  obtain ⟨A2, c2, e2, ht1⟩ := own_vt ht hnil
  have hlen := hG.len
  rw [e1, e2] at hb0
  have hn8 : (nsOf A rs).length = 8 := by rw [nsOf_length]; exact hA.eight
  have hall : ∀ (j q : Nat), (nsOf A rs)[j]? = some (some q) → ∃ k2 r2, A.names[j]? = some (some k2) ∧ rs[k2]? = some r2 ∧ r2.g = q ∧ ∃ cs : Array Value, w.heap[q]? = some (Obj.cells cs 87 (0, 0)) := fun j q hq => by
    unfold nsOf at hq
    rw [List.getElem?_map] at hq
    cases hj : A.names[j]? with
    | none => rw [hj] at hq; cases hq
    | some o =>
      cases o with
      | none => rw [hj] at hq; cases hq
      | some k2 =>
        rw [hj] at hq
        have hk2 := hA.there _ _ hj
        obtain ⟨r2, hr2⟩ : ∃ r, rs[k2]? = some r := ⟨_, List.getElem?_eq_getElem (by rw [h.len]; exact hk2)⟩
        simp only [Option.map_some, gAt_eq hr2, Option.some.injEq] at hq
        exact ⟨k2, r2, rfl, hr2, hq, _, by rw [← hq]; exact (h.rows k2 r2 _ hr2 (List.getElem?_eq_getElem hk2)).1⟩
  have hoth : A.others n.toNat ↔ ∃ j, j < 8 ∧ j ≠ n.toNat ∧ (nsOf A rs)[j]? = some (some r.g) := by
    have hnn : A.names[n.toNat]? = some (some k) := by rw [id_names hA h0 h8, hk]
    constructor
    · rintro ⟨j, hj, hj2, hj3⟩
      exact ⟨j, hj, hj2, by rw [nsOf_get (hj3.trans hnn)]; simp [gAt_eq hr]⟩
    · rintro ⟨j, hj, hj2, hj3⟩
      obtain ⟨k2, r2, h1, h2, h3, _⟩ := hall j _ hj3
      have := h.gs k2 k r2 r h2 hr h3
      subst this
      exact ⟨j, hj, hj2, h1.trans hnn.symm⟩
  have hoff := hA.off
  have hmade : A.made = (A.bufs.length : Int) + A.off := rfl
  have HC := own_any s (nsOf A rs) A.made A.shared hn8 n.toNat (by omega) r.g hns (by omega) (by omega) hs0 hs1 _ _ _ A1 _ c1 _ A2 c2 _ (by omega) (by omega) w h.main
    (fun j q hq => by obtain ⟨_, _, _, _, _, hc⟩ := hall j q hq; exact hc) hb0 hl1 ht1
  rw [hi] at HC
  refine HC.mono ?_
  rintro e w' (⟨hno, rfl, hK⟩ | ⟨hyes, g', lv, pv, hge, rfl, hm', hg', ho1, ⟨ho2, hnil2⟩, hK⟩)
  · have hnot : ¬ A.others n.toNat := fun hc => by obtain ⟨j, h1, h2, h3⟩ := hoth.1 hc; exact hno j h1 h2 h3
    have hown : A.own n = A := by unfold Sto.own; rw [if_neg hnot]
    rw [hown]
    exact ⟨rs, k, r, rfl, h.same (fun q hq _ => hK.block q hq (by simp)), hk, hr, hb, Ran.of hK (by simp) (fun q hq => Or.inl hq)⟩
  · have hot := hoth.2 hyes
    have hown : A.own n = { A.fresh n (A.buf n) with shared := A.shared + 1 } := by unfold Sto.own; rw [if_pos hot]
    rw [hown]
    have f1 : ∀ q, lv.ownBlock = some q → w.heap.size ≤ q := fun q hq => (own_block ho1 hq).1
    have f2 : ∀ q, pv.ownBlock = some q → w.heap.size ≤ q := fun q hq => (own_block ho2 hq).1
    refine ⟨rs ++ [⟨g', lv, pv⟩], A.bufs.length, ⟨g', lv, pv⟩, rfl, ?_, ?_, by rw [← h.len]; simp, by simp [Sto.fresh], ?_⟩
    · exact h.fresh hK ⟨hg', own_weak ho1 (Nat.zero_le _), own_weak ho2 (Nat.zero_le _), hnil2⟩ hge f1 f2 hA hm'
    · have := hA.eight
      unfold Sto.id Sto.fresh
      simp only
      rw [List.getElem?_set_self (by omega)]; rfl
    · refine Ran.of hK (fun q hq => Or.inl (Or.inl (by simpa using hq))) (fun q hq => ?_)
      rcases foot_push hq with hq | rfl | hq | hq
      · exact Or.inl hq
      · exact Or.inr hge
      · exact Or.inr (f1 q hq)
      · exact Or.inr (f2 q hq)
end Go.Proofs.Ytbhdgeoljlhmcaa
