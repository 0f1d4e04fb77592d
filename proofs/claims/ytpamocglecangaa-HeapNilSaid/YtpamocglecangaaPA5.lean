/- Objects and buffers of a heap, read and changed cell by cell. The program's dead: ContainsFunc of a method value. The program's count: a value counted in or out. Levels, array, place, alone. The program's alone: the error of changing a buffer. Steps that append to rows of one's own, make them, and build their elements. The program's taken: copies of values. The program's Copy. Regions that draw their order and whose last operation writes what others have read: the condition on the world need not hold behind that one. A heap that grows by an object, a buffer or a level. -/
import Derived.Test.YtpamocglecangaaPA3
import Derived.Test.YtpamocglecangaaPA4
import Derived.Laws.MakeOwn
import Derived.Test.YtpamocglecangaaPA1
namespace Go.Proofs.Ytpamocglecangaa
open Go.RowKit Go.Proofs.Ytpamocglecangaa.Nm
/-- What loads see of an object, of a buffer. -/
structure ObL (w : World) (g i : Nat) (o : Ob) (tr : Array Value) (fA : Option Addr) (fc : Nat) : Prop where
  t : RowAt w 32 ⟨g, i * 8, none⟩ tr
  n : OneAt w 9 ⟨g, i * 8 + 1, none⟩ (.string o.t.name)
  s : OneAt w 3 ⟨g, i * 8 + 4, none⟩ (.int .i64 o.state)
  c : OneAt w 3 ⟨g, i * 8 + 5, none⟩ (.int .i64 o.count)
  k : OneAt w 3 ⟨g, i * 8 + 6, none⟩ (.int .i64 o.weak)
  f : OneAt w 33 ⟨g, i * 8 + 7, none⟩ (.slice fA o.fields.length fc)
structure BuL (w : World) (g i : Nat) (b : Bu) (eA : Option Addr) (ec : Nat) : Prop where
  c : OneAt w 3 ⟨g, i * 2, none⟩ (.int .i64 b.count)
  e : OneAt w 33 ⟨g, i * 2 + 1, none⟩ (.slice eA b.elems.length ec)
section
variable {w w' : World} {G : Gh} {k : Nat} {obs : List Ob} {bus : List Bu} {A : Option Addr} {c i : Nat} {o : Ob} {b : Bu}
theorem cell8_at {tr : Array Value} (h : tr.size = 4) (s c k : Int) (A : Option Addr) (l m : Nat) : (cell8 tr s c k A l m).size = 8 ∧ (cell8 tr s c k A l m)[4]? = some (.int .i64 s) ∧ (cell8 tr s c k A l m)[5]? = some (.int .i64 c) ∧ (cell8 tr s c k A l m)[6]? = some (.int .i64 k) ∧ (cell8 tr s c k A l m)[7]? = some (.slice A l m) := by
  obtain ⟨l0⟩ := tr
  match l0, h with
  | [a0, a1, a2, a3], _ => exact ⟨rfl, rfl, rfl, rfl, rfl⟩
theorem cell8_set {tr : Array Value} (h : tr.size = 4) (s c k : Int) (A : Option Addr) (l m : Nat) (x : Int) (A' : Option Addr) (l' m' : Nat) : (cell8 tr s c k A l m).setIfInBounds 4 (.int .i64 x) = cell8 tr x c k A l m ∧ (cell8 tr s c k A l m).setIfInBounds 5 (.int .i64 x) = cell8 tr s x k A l m ∧ (cell8 tr s c k A l m).setIfInBounds 6 (.int .i64 x) = cell8 tr s c x A l m ∧ (cell8 tr s c k A l m).setIfInBounds 7 (.slice A' l' m') = cell8 tr s c k A' l' m' := by
  obtain ⟨l0⟩ := tr
  match l0, h with
  | [a0, a1, a2, a3], _ => exact ⟨rfl, rfl, rfl, rfl⟩
theorem cell8_ty {tr : Array Value} (h : tr.size = 4) (s c k : Int) (A : Option Addr) (l m : Nat) : (cell8 tr s c k A l m).extract 0 4 = tr := by
  obtain ⟨l0⟩ := tr
  match l0, h with
  | [a0, a1, a2, a3], _ => rfl
structure ObsR (w : World) (G : Gh) (k : Nat) (obs : List Ob) (g c : Nat) (rows : List (Array Value)) : Prop where
  own : OwnL w 41 8 (some ⟨g, 0, none⟩) c rows
  len : rows.length = obs.length
  role : G g = some (k, .arr)
  lt : g < w.heap.size
  all : ∀ (i : Nat) (o : Ob) (row : Array Value), obs[i]? = some o → rows[i]? = some row → ∃ tr fA fc, ObAt w G k i o row tr fA fc
theorem ObsAt.rows (h : ObsAt w G k obs A c) (hi : obs[i]? = some o) : ∃ g rows, A = some ⟨g, 0, none⟩ ∧ ObsR w G k obs g c rows := by
  obtain ⟨rows, ho, hl, hr, hv⟩ := h
  have h1 := (List.getElem?_eq_some_iff.1 hi).1
  obtain ⟨g, cur, e, hg, -⟩ := ho.addr (i := i) (by omega)
  subst e
  exact ⟨g, rows, rfl, ho, hl, hr g rfl, heap_lt hg, hv⟩
theorem ObsR.get {g : Nat} {rows : List (Array Value)} (h : ObsR w G k obs g c rows) (hi : obs[i]? = some o) : ∃ row tr fA fc, rows[i]? = some row ∧ ObAt w G k i o row tr fA fc := by
  have h1 := (List.getElem?_eq_some_iff.1 hi).1
  have hl := h.len
  have h2 : rows[i]? = some rows[i] := List.getElem?_eq_getElem (by omega)
  obtain ⟨tr, fA, fc, g1⟩ := h.all i o _ hi h2
  exact ⟨_, tr, fA, fc, h2, g1⟩
structure BusR (w : World) (G : Gh) (k : Nat) (bus : List Bu) (g c : Nat) (rows : List (Array Value)) : Prop where
  own : OwnL w 97 2 (some ⟨g, 0, none⟩) c rows
  len : rows.length = bus.length
  role : G g = some (k, .bar)
  lt : g < w.heap.size
  all : ∀ (i : Nat) (b : Bu) (row : Array Value), bus[i]? = some b → rows[i]? = some row → ∃ eA ec, BuAt w G k i b row eA ec
theorem BusAt.rows (h : BusAt w G k bus A c) (hi : bus[i]? = some b) : ∃ g rows, A = some ⟨g, 0, none⟩ ∧ BusR w G k bus g c rows := by
  obtain ⟨rows, ho, hl, hr, hv⟩ := h
  have h1 := (List.getElem?_eq_some_iff.1 hi).1
  obtain ⟨g, cur, e, hg, -⟩ := ho.addr (i := i) (by omega)
  subst e
  exact ⟨g, rows, rfl, ho, hl, hr g rfl, heap_lt hg, hv⟩
theorem BusR.get {g : Nat} {rows : List (Array Value)} (h : BusR w G k bus g c rows) (hi : bus[i]? = some b) : ∃ row eA ec, rows[i]? = some row ∧ BuAt w G k i b row eA ec := by
  have h1 := (List.getElem?_eq_some_iff.1 hi).1
  have hl := h.len
  have h2 : rows[i]? = some rows[i] := List.getElem?_eq_getElem (by omega)
  obtain ⟨eA, ec, g1⟩ := h.all i b _ hi h2
  exact ⟨_, eA, ec, h2, g1⟩
theorem ObAt.size {row tr : Array Value} {fA : Option Addr} {fc : Nat} (h : ObAt w G k i o row tr fA fc) : tr.size = 4 := h.ty.size
theorem OwnL.loads {rows : List (Array Value)} {row tr : Array Value} {fA : Option Addr} {fc g : Nat} (ho : OwnL w 41 8 (some ⟨g, 0, none⟩) c rows) (hr : rows[i]? = some row) (h : ObAt w G k i o row tr fA fc) : ObL w g i o tr fA fc := by
  obtain ⟨-, e4, e5, e6, e7⟩ := cell8_at h.size o.state o.count o.weak fA o.fields.length fc
  rw [← h.eq] at e4 e5 e6 e7
  obtain ⟨cur, hg, hs, hf, hx, hsz⟩ := ho.at hr
  have ht : cur.extract (i * 8) (i * 8 + 4) = tr := by
    have h1 := cell8_ty h.size o.state o.count o.weak fA o.fields.length fc
    rw [← h.eq, ← hx, Array.extract_extract] at h1
    rw [← h1]
    congr 1; omega
  obtain ⟨tk, ts, tn, tA, tl, tc, tt, e1, e2, -⟩ := h.ty.parts
  refine ⟨row_mid (n := 4) hg (by exact ht) u24 rfl h.size info24, one_of u9 rfl ?_, one_of u3 rfl (ho.cell hr e4), one_of u3 rfl (ho.cell hr e5), one_of u3 rfl (ho.cell hr e6), one_of u33 rfl (ho.cell hr e7)⟩
  refine ho.cell hr ?_
  rw [h.eq, e2, e1]
  rfl
theorem modify_eq {α : Type} {l : List α} {i : Nat} {x : α} (f : α → α) (h : l[i]? = some x) : l.modify i f = l.set i (f x) := by
  apply List.ext_getElem?
  intro j
  by_cases e : i = j
  · subst e
    simp [List.getElem?_modify, List.getElem?_set_self (List.getElem?_eq_some_iff.1 h).1, h]
  · simp [List.getElem?_modify, List.getElem?_set_ne e, e]
theorem ObAt.same {row tr : Array Value} {fA : Option Addr} {fc : Nat} (h : ObAt w G k i o row tr fA fc) (h1 : ∀ b, b < w.heap.size → G b = some (k, .fld i) → w'.heap[b]? = w.heap[b]?) (h2 : ∀ b, b < w.heap.size → G b = none → w'.heap[b]? = w.heap[b]?) : ObAt w' G k i o row tr fA fc :=
  ⟨h.eq, (h.ty.low.mono (fun _ h => h) fun b hb => h2 b hb.2 hb.1).weak (fun b hb => hb.1), h.fld.same h1 h2⟩
theorem BuAt.same {row : Array Value} {eA : Option Addr} {ec : Nat} (h : BuAt w G k i b row eA ec) (h1 : ∀ b, b < w.heap.size → G b = some (k, .elm i) → w'.heap[b]? = w.heap[b]?) (h2 : ∀ b, b < w.heap.size → G b = none → w'.heap[b]? = w.heap[b]?) : BuAt w' G k i b row eA ec :=
  ⟨h.eq, h.elm.same h1 h2⟩
theorem OwnL.loadsB {rows : List (Array Value)} {row : Array Value} {eA : Option Addr} {ec g : Nat} (ho : OwnL w 97 2 (some ⟨g, 0, none⟩) c rows) (hr : rows[i]? = some row) (h : BuAt w G k i b row eA ec) : BuL w g i b eA ec :=
  ⟨one_of u3 rfl (ho.cell hr (j := 0) (by rw [h.eq]; rfl)), one_of u33 rfl (ho.cell hr (j := 1) (by rw [h.eq]; rfl))⟩
theorem ObsR.loads {g : Nat} {rows : List (Array Value)} (h : ObsR w G k obs g c rows) (hi : obs[i]? = some o) : ∃ tr fA fc, (∀ w', Below w.heap.size w w' → ObL w' g i o tr fA fc) ∧ TyAt w (Imm G) o.t tr ∧ ListV w G (k, .fld i) o.fields fA fc := by
  obtain ⟨row, tr, fA, fc, hr, hx⟩ := h.get hi
  exact ⟨tr, fA, fc, fun w' hb => (h.own.old hb).loads hr (hx.same (fun b hl _ => hb.block b hl) fun b hl _ => hb.block b hl), hx.ty, hx.fld⟩
theorem BusR.loads {g : Nat} {rows : List (Array Value)} (h : BusR w G k bus g c rows) (hi : bus[i]? = some b) : ∃ eA ec, (∀ w', Below w.heap.size w w' → BuL w' g i b eA ec) ∧ ListV w G (k, .elm i) b.elems eA ec := by
  obtain ⟨row, eA, ec, hr, hx⟩ := h.get hi
  exact ⟨eA, ec, fun w' hb => (h.own.old hb).loadsB hr (hx.same (fun b hl _ => hb.block b hl) fun b hl _ => hb.block b hl), hx.elm⟩
theorem vnN {w0 : World} {D : Nat → Prop} {v : Va} {p n : Nat} {row tr : Array Value} {A2 : Option Addr} {l2 c2 : Nat} {A3 : Option Addr} {l3 c3 : Nat} {t : TypeId} {fr : Nat × Nat} (hp : w.heap[p]? = some (.cells row t fr)) (HR : Hid (VRow w0 D v row tr A2 l2 c2 A3 l3 c3)) (HN : Hid (v.num = (n : Int))) : OneAt w 3 ⟨p, 1, none⟩ (.int .i64 (n : Int)) := by
  rw [← HN.out]; exact vn hp HR
/-- An object whose row is set anew, whatever else of no concern changed. -/
theorem ObsR.upd {g : Nat} {rows : List (Array Value)} (h : ObsR w G k obs g c rows) (hi : obs[i]? = some o) {row' tr' : Array Value} {fA' : Option Addr} {fc' : Nat} {o' : Ob} (hw : ∀ (j : Nat) (b : Nat), j ≠ i → b < w.heap.size → G b = some (k, .fld j) → w'.heap[b]? = w.heap[b]?) (h2 : ∀ b, b < w.heap.size → G b = none → w'.heap[b]? = w.heap[b]?)
    (ho : OwnL w' 41 8 (some ⟨g, 0, none⟩) c (rows.set i row')) (h' : ObAt w' G k i o' row' tr' fA' fc') : ObsAt w' G k (obs.set i o') (some ⟨g, 0, none⟩) c := by
  have h1 := (List.getElem?_eq_some_iff.1 hi).1
  refine ⟨_, ho, by simp [h.len], fun g' e => by cases e; exact h.role, fun j x row hj hrj => ?_⟩
  by_cases e : i = j
  · subst e
    rw [List.getElem?_set_self h1] at hj
    rw [List.getElem?_set_self (by have := h.len; omega)] at hrj
    cases hj; cases hrj
    exact ⟨_, _, _, h'⟩
  · rw [List.getElem?_set_ne e] at hj hrj
    obtain ⟨tr, fA, fc, h3⟩ := h.all j x row hj hrj
    exact ⟨_, _, _, h3.same (fun b => hw j b fun e2 => e e2.symm) h2⟩
theorem BusR.upd {g : Nat} {rows : List (Array Value)} (h : BusR w G k bus g c rows) (hi : bus[i]? = some b) {row' : Array Value} {eA' : Option Addr} {ec' : Nat} {b' : Bu} (hw : ∀ (j : Nat) (b : Nat), j ≠ i → b < w.heap.size → G b = some (k, .elm j) → w'.heap[b]? = w.heap[b]?) (h2 : ∀ b, b < w.heap.size → G b = none → w'.heap[b]? = w.heap[b]?)
    (ho : OwnL w' 97 2 (some ⟨g, 0, none⟩) c (rows.set i row')) (h' : BuAt w' G k i b' row' eA' ec') : BusAt w' G k (bus.set i b') (some ⟨g, 0, none⟩) c := by
  have h1 := (List.getElem?_eq_some_iff.1 hi).1
  refine ⟨_, ho, by simp [h.len], fun g' e => by cases e; exact h.role, fun j x row hj hrj => ?_⟩
  by_cases e : i = j
  · subst e
    rw [List.getElem?_set_self h1] at hj
    rw [List.getElem?_set_self (by have := h.len; omega)] at hrj
    cases hj; cases hrj
    exact ⟨_, _, h'⟩
  · rw [List.getElem?_set_ne e] at hj hrj
    obtain ⟨eA, ec, h3⟩ := h.all j x row hj hrj
    exact ⟨_, _, h3.same (fun b => hw j b fun e2 => e e2.symm) h2⟩
theorem Keep.cellOne (w : World) (g j : Nat) (v : Value) : Keep (fun b => b = g) w (w.setCell ⟨g, j, none⟩ v) := ⟨rfl, rfl, rfl, by simp, fun b _ hn => heap_setCell_other _ _ _ _ hn⟩
/-- A number of an object set anew. -/
theorem ObsR.num {g : Nat} {rows : List (Array Value)} (h : ObsR w G k obs g c rows) (hi : obs[i]? = some o) {j : Nat} {x : Int} {o' : Ob} (ht : o'.t = o.t) (hf : o'.fields = o.fields)
    (hj : (j = 4 ∧ o'.state = x ∧ o'.count = o.count ∧ o'.weak = o.weak) ∨ (j = 5 ∧ o'.state = o.state ∧ o'.count = x ∧ o'.weak = o.weak) ∨ (j = 6 ∧ o'.state = o.state ∧ o'.count = o.count ∧ o'.weak = x)) :
    ObsAt (w.setCell ⟨g, i * 8 + j, none⟩ (.int .i64 x)) G k (obs.set i o') (some ⟨g, 0, none⟩) c := by
  obtain ⟨row, tr, fA, fc, hr, hx⟩ := h.get hi
  have hs1 := (Keep.cellOne w g (i * 8 + j) (.int .i64 x)).block
  have hc := cell8_set hx.size o.state o.count o.weak fA o.fields.length fc x none 0 0
  have hne : ∀ b r, G b = some (k, r) → r ≠ .arr → b ≠ g := fun b r e hr e2 => by rw [e2, h.role] at e; cases e; exact hr rfl
  have hno : ∀ b, G b = none → b ≠ g := fun b e e2 => by rw [e2, h.role] at e; cases e
  refine h.upd hi (fun j b _ hb e => hs1 b hb (hne b _ e (by simp))) (fun b hb e => hs1 b hb (hno b e)) (h.own.set hr (j := j) (by omega) _) (tr' := tr) (fA' := fA) (fc' := fc) ?_
  have h0 := hx.same (w' := w.setCell ⟨g, i * 8 + j, none⟩ (.int .i64 x)) (fun b hb e => hs1 b hb (hne b _ e (by simp))) (fun b hb e => hs1 b hb (hno b e))
  refine ⟨?_, by rw [ht]; exact h0.ty, by rw [hf]; exact h0.fld⟩
  rw [hx.eq, hf]
  rcases hj with ⟨rfl, e1, e2, e3⟩ | ⟨rfl, e1, e2, e3⟩ | ⟨rfl, e1, e2, e3⟩
  · rw [hc.1, e1, e2, e3]
  · rw [hc.2.1, e1, e2, e3]
  · rw [hc.2.2.1, e1, e2, e3]
theorem BusR.num {g : Nat} {rows : List (Array Value)} (h : BusR w G k bus g c rows) (hi : bus[i]? = some b) {x : Int} {b' : Bu} (hf : b'.elems = b.elems) (hc : b'.count = x) :
    BusAt (w.setCell ⟨g, i * 2, none⟩ (.int .i64 x)) G k (bus.set i b') (some ⟨g, 0, none⟩) c := by
  obtain ⟨row, eA, ec, hr, hx⟩ := h.get hi
  have hs1 := (Keep.cellOne w g (i * 2 + 0) (.int .i64 x)).block
  have hne : ∀ b r, G b = some (k, r) → r ≠ .bar → b ≠ g := fun b r e hr e2 => by rw [e2, h.role] at e; cases e; exact hr rfl
  have hno : ∀ b, G b = none → b ≠ g := fun b e e2 => by rw [e2, h.role] at e; cases e
  refine h.upd hi (fun j b _ hb e => hs1 b hb (hne b _ e (by simp))) (fun b hb e => hs1 b hb (hno b e)) (h.own.set hr (j := 0) (by omega) _) (eA' := eA) (ec' := ec) ?_
  have h0 := hx.same (w' := w.setCell ⟨g, i * 2 + 0, none⟩ (.int .i64 x)) (fun b hb e => hs1 b hb (hne b _ e (by simp))) (fun b hb e => hs1 b hb (hno b e))
  refine ⟨?_, by rw [hf]; exact h0.elm⟩
  rw [hx.eq, hf, hc]; rfl
end
section
variable {w w' : World} {G : Gh} {k p : Nat} {h : Hp} {oA : Option Addr} {oc : Nat} {bA : Option Addr} {bc m : Nat} {lA : Option Addr} {lc : Nat}
theorem HAt.obsC (hh : HAt w G k p h oA oc bA bc m lA lc) {obs : List Ob} (hl : obs.length = h.obs.length) (hs : ∀ b, b < w.heap.size → (∃ r, G b = some (k, r) ∧ r ≠ .arr ∧ ∀ i, r ≠ .fld i) → w'.heap[b]? = w.heap[b]?) (h2 : ∀ b, b < w.heap.size → G b = none → w'.heap[b]? = w.heap[b]?) (ho : ObsAt w' G k obs oA oc) : HAt w' G k p { h with obs := obs } oA oc bA bc m lA lc where
  blk := by rw [hs p (heap_lt hh.blk) ⟨_, hh.rp, by simp, by simp⟩]; show _ = some (Obj.cells (cellH oA obs.length oc bA h.bus.length bc m lA h.lev.length lc) 87 (0, 0)); rw [hl]; exact hh.blk
  rp := hh.rp
  rm := hh.rm
  obs := ho
  bus := hh.bus.same (fun b hb e => hs b hb (by rcases e with e | ⟨i, e⟩ <;> exact ⟨_, e, by simp, by simp⟩)) h2
  lev := hh.lev.same (fun b hb e => hs b hb (by rcases e with e | ⟨i, e⟩ <;> exact ⟨_, e, by simp, by simp⟩)) h2
  map := hh.map.same fun hl => hs m hl ⟨_, hh.rm, by simp, by simp⟩
theorem HAt.busC (hh : HAt w G k p h oA oc bA bc m lA lc) {bus : List Bu} (hl : bus.length = h.bus.length) (hs : ∀ b, b < w.heap.size → (∃ r, G b = some (k, r) ∧ r ≠ .bar ∧ ∀ i, r ≠ .elm i) → w'.heap[b]? = w.heap[b]?) (h2 : ∀ b, b < w.heap.size → G b = none → w'.heap[b]? = w.heap[b]?) (ho : BusAt w' G k bus bA bc) : HAt w' G k p { h with bus := bus } oA oc bA bc m lA lc where
  blk := by rw [hs p (heap_lt hh.blk) ⟨_, hh.rp, by simp, by simp⟩]; show _ = some (Obj.cells (cellH oA h.obs.length oc bA bus.length bc m lA h.lev.length lc) 87 (0, 0)); rw [hl]; exact hh.blk
  rp := hh.rp
  rm := hh.rm
  obs := hh.obs.same (fun b hb e => hs b hb (by rcases e with e | ⟨i, e⟩ <;> exact ⟨_, e, by simp, by simp⟩)) h2
  bus := ho
  lev := hh.lev.same (fun b hb e => hs b hb (by rcases e with e | ⟨i, e⟩ <;> exact ⟨_, e, by simp, by simp⟩)) h2
  map := hh.map.same fun hl => hs m hl ⟨_, hh.rm, by simp, by simp⟩
/-- A number of an object of a heap, set anew. -/
theorem HAt.setO (hh : HAt w G k p h oA oc bA bc m lA lc) {g i j : Nat} {rows : List (Array Value)} (hA : oA = some ⟨g, 0, none⟩) (hR : ObsR w G k h.obs g oc rows) {o o' : Ob} (hi : h.obs[i]? = some o) {x : Int} (ht : o'.t = o.t) (hf : o'.fields = o.fields)
    (hj : (j = 4 ∧ o'.state = x ∧ o'.count = o.count ∧ o'.weak = o.weak) ∨ (j = 5 ∧ o'.state = o.state ∧ o'.count = x ∧ o'.weak = o.weak) ∨ (j = 6 ∧ o'.state = o.state ∧ o'.count = o.count ∧ o'.weak = x)) :
    HAt (w.setCell ⟨g, i * 8 + j, none⟩ (.int .i64 x)) G k p { h with obs := h.obs.set i o' } oA oc bA bc m lA lc := by
  have hs1 := (Keep.cellOne w g (i * 8 + j) (.int .i64 x)).block
  refine hh.obsC (by simp) (fun b hb e => hs1 b hb fun e2 => ?_) (fun b hb e => hs1 b hb fun e2 => by rw [e2, hR.role] at e; cases e) (by rw [hA]; exact hR.num hi ht hf hj)
  obtain ⟨r, e3, e4, -⟩ := e
  rw [e2, hR.role] at e3; cases e3; exact e4 rfl
theorem HAt.setB (hh : HAt w G k p h oA oc bA bc m lA lc) {g i : Nat} {rows : List (Array Value)} (hA : bA = some ⟨g, 0, none⟩) (hR : BusR w G k h.bus g bc rows) {b b' : Bu} (hi : h.bus[i]? = some b) {x : Int} (hf : b'.elems = b.elems) (hc : b'.count = x) :
    HAt (w.setCell ⟨g, i * 2, none⟩ (.int .i64 x)) G k p { h with bus := h.bus.set i b' } oA oc bA bc m lA lc := by
  have hs1 := (Keep.cellOne w g (i * 2) (.int .i64 x)).block
  refine hh.busC (by simp) (fun b hb e => hs1 b hb fun e2 => ?_) (fun b hb e => hs1 b hb fun e2 => by rw [e2, hR.role] at e; cases e) (by rw [hA]; exact hR.num hi hf hc)
  obtain ⟨r, e3, e4, -⟩ := e
  rw [e2, hR.role] at e3; cases e3; exact e4 rfl
theorem HAt.stO {g i : Nat} (hh : HAt w G k p h (some ⟨g, 0, none⟩) oc bA bc m lA lc) {o : Ob} (hi : h.obs[i]? = some o) (j : Nat) (hj : j < 8) : (w.cell? ⟨g, i * 8 + j, none⟩).isSome = true ∧ w.frozen? ⟨g, i * 8 + j, none⟩ = false ∧ G g = some (k, .arr) ∧
    ∀ (x : Int) (o' : Ob), o'.t = o.t → o'.fields = o.fields → ((j = 4 ∧ o'.state = x ∧ o'.count = o.count ∧ o'.weak = o.weak) ∨ (j = 5 ∧ o'.state = o.state ∧ o'.count = x ∧ o'.weak = o.weak) ∨ (j = 6 ∧ o'.state = o.state ∧ o'.count = o.count ∧ o'.weak = x)) → HAt (w.setCell ⟨g, i * 8 + j, none⟩ (.int .i64 x)) G k p { h with obs := h.obs.set i o' } (some ⟨g, 0, none⟩) oc bA bc m lA lc := by
  obtain ⟨g', rows, e, hR⟩ := hh.obs.rows hi
  cases e
  obtain ⟨row, tr, fA, fc, hr, -⟩ := hR.get hi
  obtain ⟨h1, h2⟩ := hR.own.lies hr hj
  exact ⟨h1, h2, hR.role, fun x o' a b c => hh.setO rfl hR hi a b c⟩
theorem HAt.stB {g i : Nat} (hh : HAt w G k p h oA oc (some ⟨g, 0, none⟩) bc m lA lc) {b : Bu} (hi : h.bus[i]? = some b) : (w.cell? ⟨g, i * 2, none⟩).isSome = true ∧ w.frozen? ⟨g, i * 2, none⟩ = false ∧ G g = some (k, .bar) ∧
    ∀ (x : Int) (b' : Bu), b'.elems = b.elems → b'.count = x → HAt (w.setCell ⟨g, i * 2, none⟩ (.int .i64 x)) G k p { h with bus := h.bus.set i b' } oA oc (some ⟨g, 0, none⟩) bc m lA lc := by
  obtain ⟨g', rows, e, hR⟩ := hh.bus.rows hi
  cases e
  obtain ⟨row, eA, ec, hr, -⟩ := hR.get hi
  obtain ⟨h1, h2⟩ := hR.own.lies hr (j := 0) (by omega)
  exact ⟨h1, h2, hR.role, fun x b' a c => hh.setB rfl hR hi a c⟩
end
end Go.Proofs.Ytpamocglecangaa
namespace Go.Proofs.Ytpamocglecangaa
open Go.RowKit Go.Proofs.Ytpamocglecangaa.Nm
set_option linter.unusedSimpArgs false
set_option maxHeartbeats 4000000 in
set_option maxRecDepth 100000 in
theorem IndexF_any (F : FuncId) (x : Value) (q : Va → Bool) (l : List Va) (w : World) (D : Nat → Prop) (A : Option Addr) (n c : Nat) (h : VsAt w D l A n c) (hcf : ∀ v W, (callFunc F #[x, v]).run Try.prog W = .ok (.enter F #[x, v]) W) (hq : ∀ u rowu W, u ∈ l → VAt W D u rowu → Below w.heap.size w W → Calls Try.prog F #[x, .agg rowu] W fun e w' => e = .returned (.bool (q u)) ∧ Below W.heap.size W w') :
    Calls Try.prog 130 #[.slice A n c, .func (Fn.func F) #[x] #[]] w fun e w' => (∃ r : Int, e = .returned (.int .i64 r) ∧ decide (r ≥ 0) = l.any q) ∧ Below w.heap.size w w' := by
  have HR := Lib.hid h
  have HQ := Lib.hid hq
  have HCF := Lib.hid hcf
  have hcm := h.cap
  have hmx := h.max
  unfold maxLen at hmx
  have HL := Lib.hid h.len
  clear h hq hcf
  have hb := Below.refl w.heap.size w
  have HF : Hid (l.any q = (l.drop 0).any q) := Lib.hid rfl
  go_enter Try.func130, Try.ntmps130
  go_upto_region 0 with (fail)
  apply wp_region_lit
  (with_reducible refine wl_k ?_ ?_); exact rfl; intro K hK; go_simp; refine hK _ ?_; clear hK K
  go_upto_region 1 with (fail)
  apply wp_region_lit
  (with_reducible refine wl_k ?_ ?_); exact rfl; intro K hK; go_simp; refine hK _ ?_; clear hK K
  (with_reducible refine wl_k ?_ ?_); exact rfl; intro K hK; go_simp; refine hK _ ?_; clear hK K
  (with_reducible refine wl_k ?_ ?_); exact rfl; intro K hK; go_simp; refine hK _ ?_; clear hK K
  go_wp2_with fail
  go_loopw [8] (fun i wr => ∃ j : Nat, j ≤ n ∧ i = .int .i64 (j : Int) ∧ Hid (l.any q = (l.drop j).any q) ∧ Below w.heap.size w wr) (fun i _ => n - (intOf i).toNat)
  case atStart => exact ⟨0, by omega, rfl, HF, hb⟩
  case round =>
    clear hb HF
    obtain ⟨j, hj, rfl, HF, hb⟩ := hrel
    go_upto_region 2 with (fail)
    by_cases hlt : j < n
    · have hltI : (j : Int) < (n : Int) := by omega
      obtain ⟨b2, off2, u, rowu, rfl, -, hu, hua, hrow⟩ := (HR.out.old hb).getB hlt
      have HST : Hid ((l.drop j).any q = (q u || (l.drop (j + 1)).any q)) := Lib.hid (by
        obtain ⟨h1, e1⟩ := List.getElem?_eq_some_iff.1 hu
        rw [List.drop_eq_getElem_cons h1, e1, List.any_cons])
      have HRU := Lib.hid (hrow wr (Below.refl _ _))
      obtain ⟨bb, hbb⟩ : ∃ b, b = q u := ⟨_, rfl⟩
      have hc := HQ.out u rowu wr (List.mem_of_getElem? hu) hua hb
      rw [← hbb] at hc HST
      have HC := Lib.hid hc
      clear hu hua hrow hc hbb
      apply wp_region_lit
      (with_reducible refine wl_k ?_ ?_); exact rfl; intro K hK; go_simp; refine hK _ ?_; clear hK K
      go_upto_region 3 with (fail)
      apply wp_region_lit
      (with_reducible refine wl_k ?_ ?_); exact rfl; intro K hK; go_simp; refine hK _ ?_; clear hK K
      (with_reducible refine wl_k ?_ ?_); exact rfl; intro K hK; go_simp; refine hK _ ?_; clear hK K
      go_upto_region 4 with (fail)
      apply wp_region_lit
      (with_reducible refine wl_k ?_ ?_); exact rfl; intro K hK; go_simp; refine hK _ ?_; clear hK K
      (with_reducible refine wl_k ?_ ?_); exact rfl; intro K hK; go_simp; refine hK _ ?_; clear hK K
      (with_reducible refine wl_k ?_ ?_); exact rfl; intro K hK; go_simp; refine hK _ ?_; clear hK K
      (with_reducible refine wl_k ?_ ?_); exact rfl; intro K hK; go_simp; refine hK _ ?_; clear hK K
      ((with_reducible apply wl_rowG); exact rfl; exact rfl; exact HRU.out)
      (with_reducible refine wl_ck ?_ ?_); exact rfl; intro K hK; go_simp; refine ⟨_, _, HCF.out _ _, hK _ _ ⟨_, HC.out, ?_⟩⟩; clear hK K; rintro e w7 ⟨rfl, hb7⟩; refine ⟨_, rfl, ?_⟩; simp only [put_lit, List.set_cons_zero, List.set_cons_succ]
      replace hb := hb.trans (hb7.mono hb.size)
      clear HC hb7
      cases bb with
      | true =>
        have HF2 : Hid (true = l.any q) := Lib.hid (by rw [HF.out, HST.out]; rfl)
        clear HF HST
        go_upto_region 5 with (fail)
        apply wp_region_lit
        (with_reducible refine wl_k ?_ ?_); exact rfl; intro K hK; go_simp; refine hK _ ?_; clear hK K
        (with_reducible refine wl_k ?_ ?_); exact rfl; intro K hK; go_simp; refine hK _ ?_; clear hK K
        go_wp2_with fail
        go_ret
        exact ⟨⟨_, rfl, by rw [← HF2.out]; exact decide_eq_true (by omega)⟩, hb⟩
      | false =>
        have HF2 : Hid (l.any q = (l.drop (j + 1)).any q) := Lib.hid (by rw [HF.out, HST.out]; rfl)
        clear HF HST
        go_wp2_with fail
        go_roundw
        case rel => exact ⟨j + 1, by omega, by go_num, HF2, hb⟩
        case measure => simp [intOf]; omega
    · have hltI : ¬ (j : Int) < (n : Int) := by omega
      have HF2 : Hid (false = l.any q) := Lib.hid (by rw [HF.out, List.drop_of_length_le (by rw [HL.out]; omega)]; rfl)
      apply wp_region_lit
      (with_reducible refine wl_k ?_ ?_); exact rfl; intro K hK; go_simp; refine hK _ ?_; clear hK K
      clear HF
      go_upto_region 7 with (fail)
      apply wp_region_lit
      (with_reducible refine wl_k ?_ ?_); exact rfl; intro K hK; go_simp; refine hK _ ?_; clear hK K
      go_wp2_with fail
      go_ret
      exact ⟨⟨_, rfl, by rw [← HF2.out]; rfl⟩, hb⟩
set_option maxHeartbeats 4000000 in
set_option maxRecDepth 100000 in
theorem ContainsF_any (F : FuncId) (x : Value) (q : Va → Bool) (l : List Va) (w : World) (D : Nat → Prop) (A : Option Addr) (n c : Nat) (h : VsAt w D l A n c) (hcf : ∀ v W, (callFunc F #[x, v]).run Try.prog W = .ok (.enter F #[x, v]) W) (hq : ∀ u rowu W, u ∈ l → VAt W D u rowu → Below w.heap.size w W → Calls Try.prog F #[x, .agg rowu] W fun e w' => e = .returned (.bool (q u)) ∧ Below W.heap.size W w') :
    Calls Try.prog 103 #[.slice A n c, .func (Fn.func F) #[x] #[]] w fun e w' => e = .returned (.bool (l.any q)) ∧ Below w.heap.size w w' := by
  have HC := Lib.hid (IndexF_any F x q l w D A n c h hcf hq)
  clear h hq hcf
  have hb := Below.refl w.heap.size w
  go_enter Try.func103, Try.ntmps103
  go_upto_region 0 with (fail)
  apply wp_region_lit
  (with_reducible refine wl_k ?_ ?_); exact rfl; intro K hK; go_simp; refine hK _ ?_; clear hK K
  go_upto_region 1 with (fail)
  apply wp_region_lit
  (with_reducible refine wl_k ?_ ?_); exact rfl; intro K hK; go_simp; refine hK _ ?_; clear hK K
  (with_reducible refine wl_k ?_ ?_); exact rfl; intro K hK; go_simp; refine hK _ ?_; clear hK K
  (with_reducible refine wl_ck ?_ ?_); exact rfl; intro K hK; go_simp; refine ⟨_, _, ⟨rfl, rfl⟩, hK _ _ ⟨_, HC.out, ?_⟩⟩; clear hK K; rintro e w7 ⟨⟨r, rfl, hr⟩, hb7⟩; refine ⟨_, rfl, ?_⟩; simp only [put_lit, List.set_cons_zero, List.set_cons_succ]
  have HRR := Lib.hid hr
  clear hr
  (with_reducible refine wl_k ?_ ?_); exact rfl; intro K hK; go_simp; refine hK _ ?_; clear hK K
  (with_reducible refine wl_k ?_ ?_); exact rfl; intro K hK; go_simp; refine hK _ ?_; clear hK K
  clear HC hb
  go_wp2_with fail
  go_ret
  exact ⟨by rw [← HRR.out]; rfl, hb7⟩
theorem cf74 (x v : Value) (W : World) : (callFunc 74 #[x, v]).run Try.prog W = .ok (.enter 74 #[x, v]) W := by kernel_rfl
def DeadC (G : Gh) (k : Nat) (p : Nat) (h : Hp) (v : Va) : Prop := ∀ (w : World) (D : Nat → Prop) (row : Array Value) (oA : Option Addr) (oc : Nat) (bA : Option Addr) (bc m : Nat) (lA : Option Addr) (lc : Nat), VAt w D v row → HAt w G k p h oA oc bA bc m lA lc → ofV h.obs.length h.bus.length v = true →
  Calls Try.prog 74 #[.pointer (some ⟨p, 0, none⟩), .agg row] w fun e w' => e = .returned (.bool (deadV h v)) ∧ Below w.heap.size w w'
theorem deadVs_any {h : Hp} : ∀ {l : List Va}, deadVs h l = l.any (deadV h)
  | [] => rfl
  | v :: l => by rw [deadVs, List.any_cons, deadVs_any]
set_option maxHeartbeats 4000000 in
set_option maxRecDepth 100000 in
theorem dead_any (G : Gh) (k : Nat) (p : Nat) (h : Hp) : ∀ v : Va, DeadC G k p h v := Va.ind fun v ih w D row oA oc bA bc m lA lc hv hh ho => by
  obtain ⟨tr, A2, l2, c2, A3, l3, c3, hr⟩ := hv.row
  have HR := Lib.hid hr
  have HI := Lib.hid ih
  have HH := Lib.hid hh
  have HO := Lib.hid ho
  have hh0 := hh.blk
  clear hv hr ih ho hh
  have hh := hh0
  clear hh0
  have hb := Below.refl w.heap.size w
  go_enter Try.func74, Try.ntmps74
  go_upto_region 0 with (fail)
  apply wp_region_lit
  have lthhq := heap_lt hh; (with_reducible refine wl_boxV rfl ?_); intro W q hbn hlq hq; replace hh := below_look hbn hh; replace hb := hb.trans (hbn.mono hb.size); clear hbn; simp only [put_lit, List.set_cons_zero, List.set_cons_succ]
  (with_reducible refine wl_k ?_ ?_); exact rfl; intro K hK; go_simp; refine hK _ ?_; clear hK K
  have hp := hq
  clear hq
  go_upto_region 1 with (fail)
  apply wp_region_lit
  (with_reducible refine wl_k ?_ ?_); exact rfl; intro K hK; go_simp; refine hK _ ?_; clear hK K
  (first | ((with_reducible apply wl_oneG); exact rfl; exact rfl; first | exact vk (by with_reducible assumption) (by with_reducible assumption) | exact vn (by with_reducible assumption) (by with_reducible assumption) | exact vl (by with_reducible assumption) (by with_reducible assumption) | exact vts (by with_reducible assumption) (by with_reducible assumption) | exact vs (by with_reducible assumption) (by with_reducible assumption)) | ((with_reducible apply wl_rowG); exact rfl; exact rfl; first | exact vrow (by with_reducible assumption) (by with_reducible assumption) | exact vt (by with_reducible assumption) (by with_reducible assumption)))
  by_cases h7 : v.kind = 7
  · have e7 : (v.kind == 7) = true := by simp [h7]
    have h1 : 0 ≤ v.num ∧ v.num < (h.obs.length : Int) := by
      have := HO.out
      rw [ofV_eq, if_pos (.inl h7)] at this
      exact of_decide_eq_true this
    obtain ⟨n, hn⟩ : ∃ n : Nat, v.num = (n : Int) := ⟨v.num.toNat, by omega⟩
    have hnl : n < h.obs.length := by omega
    have hnlI : (n : Int) < (h.obs.length : Int) := by omega
    have ho := List.getElem?_eq_getElem hnl
    obtain ⟨o, hoe⟩ : ∃ o, o = h.obs[n] := ⟨_, rfl⟩
    rw [← hoe] at ho
    obtain ⟨g, rows, rfl, hR⟩ := (HH.out.old hb).obs.rows ho
    obtain ⟨tr0, fA, fc, hL, -, -⟩ := hR.loads ho
    have HL := Lib.hid hL
    have HD : Hid ((o.state == 3) = deadV h v) := Lib.hid (by rw [deadV_eq, if_pos h7, hn, Bool.eq_iff_iff]; simp [ho])
    have HN := Lib.hid hn
    clear h7 h1 hn hoe hR hL HI HO ho
    go_upto_region 3 with (fail)
    refine wp_region_belowAll mixed (by kernel_rfl) ?_
    (with_reducible refine wq_k ?_ ?_); exact rfl; intro K hK; go_simp; (with_reducible refine hK _ ?_); clear hK K
    (with_reducible refine wq_k ?_ ?_); exact rfl; intro K hK; go_simp; (with_reducible refine hK _ ?_); clear hK K
    (with_reducible refine wq_k ?_ ?_); exact rfl; intro K hK; go_simp; (with_reducible refine hK _ ?_); clear hK K
    ((with_reducible apply wq_one); exact rfl; exact rfl; intro w' hw'; first | exact vk (below_look hw' (by with_reducible assumption)) (by with_reducible assumption) | exact vn (below_look hw' (by with_reducible assumption)) (by with_reducible assumption) | exact vl (below_look hw' (by with_reducible assumption)) (by with_reducible assumption) | exact h0 (below_look hw' (by with_reducible assumption)) | exact h1 (below_look hw' (by with_reducible assumption)) | exact h2 (below_look hw' (by with_reducible assumption)) | exact h3 (below_look hw' (by with_reducible assumption)))
    (with_reducible refine wq_k ?_ ?_); exact rfl; intro K hK; go_simp; (with_reducible refine hK _ ?_); clear hK K
    ((with_reducible apply wq_one); exact rfl; exact rfl; intro w' hw'; exact vnN (below_look hw' (by with_reducible assumption)) (by with_reducible assumption) (by with_reducible assumption))
    (with_reducible refine wq_k ?_ ?_); exact rfl; intro K hK; go_simp; (with_reducible refine hK _ ?_); clear hK K
    (with_reducible refine wq_k ?_ ?_); exact rfl; intro K hK; go_simp; (with_reducible refine hK _ ?_); clear hK K
    ((with_reducible apply wq_one); exact rfl; exact rfl; intro w' hw'; exact (HL.out w' hw').s)
    (with_reducible refine wq_k ?_ ?_); exact rfl; intro K hK; go_simp; (with_reducible refine hK _ ?_); clear hK K
    (with_reducible refine wq_k ?_ ?_); exact rfl; intro K hK; go_simp; (with_reducible refine hK _ ?_); clear hK K
    intro w7 hb7
    replace hb := hb.trans (hb7.mono hb.size)
    clear hb7 hp hh HL
    go_wp2_with fail
    go_ret
    exact ⟨by rw [← HD.out]; rfl, hb⟩
  · have e7 : (v.kind == 7) = false := by simp [h7]
    by_cases h8 : v.kind = 8
    · have e8 : (v.kind == 8) = true := by simp [h8]
      have h1 : 0 ≤ v.num ∧ v.num < (h.bus.length : Int) := by
        have := HO.out
        rw [ofV_eq, if_neg (by omega), if_pos h8] at this
        exact of_decide_eq_true this
      obtain ⟨n, hn⟩ : ∃ n : Nat, v.num = (n : Int) := ⟨v.num.toNat, by omega⟩
      have hnl : n < h.bus.length := by omega
      have hnlI : (n : Int) < (h.bus.length : Int) := by omega
      have ho := List.getElem?_eq_getElem hnl
      obtain ⟨o, hoe⟩ : ∃ o, o = h.bus[n] := ⟨_, rfl⟩
      rw [← hoe] at ho
      obtain ⟨g, rows, rfl, hR⟩ := (HH.out.old hb).bus.rows ho
      obtain ⟨fA, fc, hL, -⟩ := hR.loads ho
      have HL := Lib.hid hL
      have HD : Hid ((o.count == 0) = deadV h v) := Lib.hid (by rw [deadV_eq, if_neg h7, if_pos h8, hn, Bool.eq_iff_iff]; simp [ho])
      have HN := Lib.hid hn
      clear h7 h8 h1 hn hoe hR hL HI HO ho
      go_upto_region 5 with (fail)
      refine wp_region_belowAll mixed (by kernel_rfl) ?_
      (with_reducible refine wq_k ?_ ?_); exact rfl; intro K hK; go_simp; (with_reducible refine hK _ ?_); clear hK K
      (with_reducible refine wq_k ?_ ?_); exact rfl; intro K hK; go_simp; (with_reducible refine hK _ ?_); clear hK K
      (with_reducible refine wq_k ?_ ?_); exact rfl; intro K hK; go_simp; (with_reducible refine hK _ ?_); clear hK K
      ((with_reducible apply wq_one); exact rfl; exact rfl; intro w' hw'; first | exact vk (below_look hw' (by with_reducible assumption)) (by with_reducible assumption) | exact vn (below_look hw' (by with_reducible assumption)) (by with_reducible assumption) | exact vl (below_look hw' (by with_reducible assumption)) (by with_reducible assumption) | exact h0 (below_look hw' (by with_reducible assumption)) | exact h1 (below_look hw' (by with_reducible assumption)) | exact h2 (below_look hw' (by with_reducible assumption)) | exact h3 (below_look hw' (by with_reducible assumption)))
      (with_reducible refine wq_k ?_ ?_); exact rfl; intro K hK; go_simp; (with_reducible refine hK _ ?_); clear hK K
      ((with_reducible apply wq_one); exact rfl; exact rfl; intro w' hw'; exact vnN (below_look hw' (by with_reducible assumption)) (by with_reducible assumption) (by with_reducible assumption))
      (with_reducible refine wq_k ?_ ?_); exact rfl; intro K hK; go_simp; (with_reducible refine hK _ ?_); clear hK K
      (with_reducible refine wq_k ?_ ?_); exact rfl; intro K hK; go_simp; (with_reducible refine hK _ ?_); clear hK K
      ((with_reducible apply wq_one); exact rfl; exact rfl; intro w' hw'; exact (HL.out w' hw').c)
      (with_reducible refine wq_k ?_ ?_); exact rfl; intro K hK; go_simp; (with_reducible refine hK _ ?_); clear hK K
      (with_reducible refine wq_k ?_ ?_); exact rfl; intro K hK; go_simp; (with_reducible refine hK _ ?_); clear hK K
      intro w7 hb7
      replace hb := hb.trans (hb7.mono hb.size)
      clear hb7 hp hh HL
      go_wp2_with fail
      go_ret
      exact ⟨by rw [← HD.out]; rfl, hb⟩
    · have e8 : (v.kind == 8) = false := by simp [h8]
      have HE : Hid (deadV h v = if hasK v.kind then deadVs h v.parts else false) := Lib.hid (by rw [deadV_eq]; simp [h7, h8])
      have HO2 : Hid (hasK v.kind = true → ∀ u, u ∈ v.parts → ofV h.obs.length h.bus.length u = true) := Lib.hid fun hk => by
        have := HO.out
        rw [ofV_eq, if_neg (by rintro (h | h); exact h7 h; rw [h] at hk; cases hk), if_neg h8, if_pos hk] at this
        exact ofVs_iff.1 this
      clear h7 h8 HO
      obtain ⟨f5, hf5⟩ : ∃ b : Bool, b = (v.kind == 5) := ⟨_, rfl⟩
      obtain ⟨f6, hf6⟩ : ∃ b : Bool, b = (v.kind == 6) := ⟨_, rfl⟩
      obtain ⟨f9, hf9⟩ : ∃ b : Bool, b = (v.kind == 9) := ⟨_, rfl⟩
      obtain ⟨f10, hf10⟩ : ∃ b : Bool, b = (v.kind == 10) := ⟨_, rfl⟩
      have d5 := hf5.symm
      have d6 := hf6.symm
      have d9 := hf9.symm
      have d10 := hf10.symm
      obtain ⟨q46, hq46⟩ : ∃ b : Bool, b = (f5 || (f6 || (f9 || f10))) := ⟨_, rfl⟩
      have HQ := Lib.hid hq46
      have HK : Hid (q46 = hasK v.kind) := Lib.hid (by rw [hq46, hasK_eq, hf5, hf6, hf9, hf10])
      clear hf5 hf6 hf9 hf10 hq46
      go_upto_if 31 with (fail)
      go_cut [31] (fun s46 wx => s46 = .bool q46 ∧ W = wx)
      case first =>
        cases f5 <;> cases f6 <;> cases f9 <;> cases f10
        all_goals
          go_wp2_with fail
          go_meet
          exact ⟨by rw [HQ.out]; rfl, rfl⟩
      case rest =>
        obtain ⟨rfl, rfl⟩ := hcut
        clear d5 d6 d9 d10 HQ
        cases q46 with
        | false =>
          have HF : Hid (deadV h v = false) := Lib.hid (by rw [HE.out, ← HK.out, if_neg (by simp)])
          clear hp hh
          go_upto_region 11 with (fail)
          apply wp_region_lit
          (with_reducible refine wl_k ?_ ?_); exact rfl; intro K hK; go_simp; refine hK _ ?_; clear hK K
          go_wp2_with fail
          go_ret
          exact ⟨by rw [HF.out]; rfl, hb⟩
        | true =>
          have HF : Hid (deadV h v = v.parts.any (deadV h)) := Lib.hid (by rw [HE.out, ← HK.out, if_pos rfl, deadVs_any])
          have HC := Lib.hid (ContainsF_any 74 (.pointer (some ⟨p, 0, none⟩)) (deadV h) v.parts _ D A3 l3 c3 (HR.out.vs.old hb) (cf74 _) (fun u rowu W2 hu hua hbw => HI.out u hu W2 D rowu _ _ _ _ _ _ _ hua ((HH.out.old hb).old hbw) (HO2.out HK.out.symm u hu)))
          have hmf : ∀ (fn : Fn) (first cap : Array Value) (w : World), (Instr.makeFunc fn first cap).run Try.prog w = .ok (.func fn first cap) w := fun _ _ _ _ => rfl
          clear HE HO2 HI
          go_upto_region 10 with (fail)
          apply wp_region_lit
          (with_reducible refine wl_k ?_ ?_); exact rfl; intro K hK; go_simp; refine hK _ ?_; clear hK K
          (first | ((with_reducible apply wl_oneG); exact rfl; exact rfl; first | exact vk (by with_reducible assumption) (by with_reducible assumption) | exact vn (by with_reducible assumption) (by with_reducible assumption) | exact vl (by with_reducible assumption) (by with_reducible assumption) | exact vts (by with_reducible assumption) (by with_reducible assumption) | exact vs (by with_reducible assumption) (by with_reducible assumption)) | ((with_reducible apply wl_rowG); exact rfl; exact rfl; first | exact vrow (by with_reducible assumption) (by with_reducible assumption) | exact vt (by with_reducible assumption) (by with_reducible assumption)))
          (with_reducible refine wl_k ?_ ?_); exact rfl; intro K hK; go_simp; refine hK _ ?_; clear hK K
          (with_reducible refine wl_k ?_ ?_); exact rfl; intro K hK; go_simp; refine hK _ ?_; clear hK K
          (with_reducible refine wl_ck ?_ ?_); exact rfl; intro K hK; go_simp; refine ⟨_, _, ⟨rfl, rfl⟩, hK _ _ ⟨_, HC.out, ?_⟩⟩; clear hK K; rintro e w7 ⟨rfl, hb7⟩; refine ⟨_, rfl, ?_⟩; simp only [put_lit, List.set_cons_zero, List.set_cons_succ]
          (with_reducible refine wl_k ?_ ?_); exact rfl; intro K hK; go_simp; refine hK _ ?_; clear hK K
          replace hb := hb.trans (hb7.mono hb.size)
          clear HC hb7
          go_wp2_with fail
          go_ret
          exact ⟨by rw [HF.out]; rfl, hb⟩
end Go.Proofs.Ytpamocglecangaa
namespace Go.Proofs.Ytpamocglecangaa
open Go.RowKit Go.Proofs.Ytpamocglecangaa.Nm
set_option linter.unusedSimpArgs false
theorem cntV_same (x : Int) : ∀ (v : Va) (h : Hp), (cntV x v h).obs.length = h.obs.length ∧ (cntV x v h).bus.length = h.bus.length ∧ (cntV x v h).lev = h.lev ∧ (cntV x v h).dei = h.dei := Va.ind fun v ih h => by
  have hl : ∀ (l : List Va), (∀ u, u ∈ l → u ∈ v.parts) → ∀ h, (cntVs x l h).obs.length = h.obs.length ∧ (cntVs x l h).bus.length = h.bus.length ∧ (cntVs x l h).lev = h.lev ∧ (cntVs x l h).dei = h.dei := by
    intro l
    induction l with
    | nil => intro _ h; rw [cntVs]; exact ⟨rfl, rfl, rfl, rfl⟩
    | cons u l ihl =>
      intro hm h
      rw [cntVs]
      have h1 := ih u (hm u (by simp)) h
      have h2 := ihl (fun u hu => hm u (by simp [hu])) (cntV x u h)
      exact ⟨h2.1.trans h1.1, h2.2.1.trans h1.2.1, h2.2.2.1.trans h1.2.2.1, h2.2.2.2.trans h1.2.2.2⟩
  rw [cntV_eq]
  split
  · simp
  · split
    · simp
    · split
      · simp
      · split
        · exact hl v.parts (fun _ h => h) h
        · exact ⟨rfl, rfl, rfl, rfl⟩
theorem cntVs_same (x : Int) : ∀ (l : List Va) (h : Hp), (cntVs x l h).obs.length = h.obs.length ∧ (cntVs x l h).bus.length = h.bus.length ∧ (cntVs x l h).lev = h.lev ∧ (cntVs x l h).dei = h.dei
  | [], h => by rw [cntVs]; exact ⟨rfl, rfl, rfl, rfl⟩
  | u :: l, h => by
    rw [cntVs]
    have h1 := cntV_same x u h
    have h2 := cntVs_same x l (cntV x u h)
    exact ⟨h2.1.trans h1.1, h2.2.1.trans h1.2.1, h2.2.2.1.trans h1.2.2.1, h2.2.2.2.trans h1.2.2.2⟩
/-- Blocks that a count writes into. -/
def Cnt (G : Gh) (k : Nat) (b : Nat) : Prop := G b = some (k, .arr) ∨ G b = some (k, .bar)
theorem Cnt.mine {G : Gh} {k b : Nat} (h : Cnt G k b) : Mine G k b := by rcases h with h | h <;> exact ⟨_, h, by simp⟩
theorem Cnt.imm {G : Gh} {k b : Nat} (h : Imm G b) : ¬ Cnt G k b := by rintro (h2 | h2) <;> (unfold Imm at h; rw [h] at h2; cases h2)
def Fr (w : World) (G : Gh) : Prop := ∀ b, w.heap.size ≤ b → G b = none
theorem Fr.on {w w' : World} {G : Gh} (h : Fr w G) (hs : w.heap.size ≤ w'.heap.size) : Fr w' G := fun b hb => h b (by omega)
def CountC (G : Gh) (k p : Nat) (x : Int) (v : Va) : Prop := ∀ (h : Hp) (w : World) (row : Array Value) (oA : Option Addr) (oc : Nat) (bA : Option Addr) (bc m : Nat) (lA : Option Addr) (lc : Nat), VAt w (Imm G) v row → HAt w G k p h oA oc bA bc m lA lc → Fr w G → ofV h.obs.length h.bus.length v = true →
  Calls Try.prog 75 #[.pointer (some ⟨p, 0, none⟩), .agg row, .int .i64 x] w fun e w' => e = .returned (.tuple #[]) ∧ HAt w' G k p (cntV x v h) oA oc bA bc m lA lc ∧ Keep (Cnt G k) w w'
set_option maxHeartbeats 8000000 in
set_option maxRecDepth 100000 in
theorem count_any (G : Gh) (k p : Nat) (x : Int) (hx : (Lit.int .i64 x).wf = true) : ∀ v : Va, CountC G k p x v := Va.ind fun v ih h w row oA oc bA bc m lA lc hv hh hf ho => by
  obtain ⟨tr, A2, l2, c2, A3, l3, c3, hr⟩ := hv.row
  have hcm3 := hr.vs.cap
  have hmx3 := hr.vs.max
  unfold maxLen at hmx3
  have HL3 := Lib.hid hr.vs.len
  have HR := Lib.hid hr
  have HI := Lib.hid ih
  have HH := Lib.hid hh
  have HO := Lib.hid ho
  have HFr := Lib.hid hf
  have hh0 := hh.blk
  clear hv hr ih ho hh hf
  have hh := hh0
  clear hh0
  have hb := Below.refl w.heap.size w
  go_enter Try.func75, Try.ntmps75
  go_upto_region 0 with (fail)
  apply wp_region_lit
  have lthhq := heap_lt hh; (with_reducible refine wl_boxV rfl ?_); intro W q hbn hlq hq; replace hh := below_look hbn hh; replace hb := hb.trans (hbn.mono hb.size); clear hbn; simp only [put_lit, List.set_cons_zero, List.set_cons_succ]
  have hp := hq
  clear hq
  go_upto_region 1 with (fail)
  apply wp_region_lit
  (with_reducible refine wl_k ?_ ?_); exact rfl; intro K hK; go_simp; refine hK _ ?_; clear hK K
  (first | ((with_reducible apply wl_oneG); exact rfl; exact rfl; first | exact vk (by with_reducible assumption) (by with_reducible assumption) | exact vn (by with_reducible assumption) (by with_reducible assumption) | exact vl (by with_reducible assumption) (by with_reducible assumption) | exact vts (by with_reducible assumption) (by with_reducible assumption) | exact vs (by with_reducible assumption) (by with_reducible assumption)) | ((with_reducible apply wl_rowG); exact rfl; exact rfl; first | exact vrow (by with_reducible assumption) (by with_reducible assumption) | exact vt (by with_reducible assumption) (by with_reducible assumption)))
  by_cases h7 : v.kind = 7
  · have e7 : (v.kind == 7) = true := by simp [h7]
    have h1 : 0 ≤ v.num ∧ v.num < (h.obs.length : Int) := by
      have := HO.out
      rw [ofV_eq, if_pos (by omega)] at this
      exact of_decide_eq_true this
    obtain ⟨n, hn⟩ : ∃ n : Nat, v.num = (n : Int) := ⟨v.num.toNat, by omega⟩
    have hnl : n < h.obs.length := by omega
    have hnlI : (n : Int) < (h.obs.length : Int) := by omega
    have ho := List.getElem?_eq_getElem hnl
    obtain ⟨o, hoe⟩ : ∃ o, o = h.obs[n] := ⟨_, rfl⟩
    rw [← hoe] at ho
    obtain ⟨g, rows, rfl, hR⟩ := (HH.out.old hb).obs.rows ho
    obtain ⟨tr0, fA, fc, hL, -, -⟩ := hR.loads ho
    have HL := Lib.hid hL
    have HOO := Lib.hid ho
    have HD : Hid (cntV x v h = { h with obs := h.obs.set n (addC x o) }) := Lib.hid (by rw [cntV_eq, if_pos h7, hn]; show (_ : Hp) = _; rw [Int.toNat_natCast, modify_eq _ ho])
    have HN := Lib.hid hn
    clear h1 hn hoe hR hL HI HO ho
    go_upto_region 3 with (fail)
    refine wp_region_below 13 mixed (by kernel_rfl) ?_; simp only [List.take_succ_cons, List.take_zero, List.drop_succ_cons, List.drop_zero]
    (with_reducible refine wq_k ?_ ?_); exact rfl; intro K hK; go_simp; (with_reducible refine hK _ ?_); clear hK K
    (with_reducible refine wq_k ?_ ?_); exact rfl; intro K hK; go_simp; (with_reducible refine hK _ ?_); clear hK K
    (with_reducible refine wq_k ?_ ?_); exact rfl; intro K hK; go_simp; (with_reducible refine hK _ ?_); clear hK K
    ((with_reducible apply wq_one); exact rfl; exact rfl; intro w' hw'; first | exact vk (below_look hw' (by with_reducible assumption)) (by with_reducible assumption) | exact vn (below_look hw' (by with_reducible assumption)) (by with_reducible assumption) | exact vl (below_look hw' (by with_reducible assumption)) (by with_reducible assumption) | exact h0 (below_look hw' (by with_reducible assumption)) | exact h1 (below_look hw' (by with_reducible assumption)) | exact h2 (below_look hw' (by with_reducible assumption)) | exact h3 (below_look hw' (by with_reducible assumption)))
    (with_reducible refine wq_k ?_ ?_); exact rfl; intro K hK; go_simp; (with_reducible refine hK _ ?_); clear hK K
    ((with_reducible apply wq_one); exact rfl; exact rfl; intro w' hw'; exact vnN (below_look hw' (by with_reducible assumption)) (by with_reducible assumption) (by with_reducible assumption))
    (with_reducible refine wq_k ?_ ?_); exact rfl; intro K hK; go_simp; (with_reducible refine hK _ ?_); clear hK K
    (with_reducible refine wq_k ?_ ?_); exact rfl; intro K hK; go_simp; (with_reducible refine hK _ ?_); clear hK K
    ((with_reducible apply wq_one); exact rfl; exact rfl; intro w' hw'; exact (HL.out w' hw').c)
    (with_reducible refine wq_k ?_ ?_); exact rfl; intro K hK; go_simp; (with_reducible refine hK _ ?_); clear hK K
    (with_reducible refine wq_k ?_ ?_); exact rfl; intro K hK; go_simp; (with_reducible refine hK _ ?_); clear hK K
    (with_reducible refine wq_k ?_ ?_); exact rfl; intro K hK; go_simp; (with_reducible refine hK _ ?_); clear hK K
    (with_reducible refine wq_k ?_ ?_); exact rfl; intro K hK; go_simp; (with_reducible refine hK _ ?_); clear hK K
    intro w7 hb7
    have hb0 := hb.trans (hb7.mono hb.size)
    have HH7 := Lib.hid (HH.out.old hb0)
    clear hp hh HL hb7 hb
    obtain ⟨hs1, hs2, hrl, hset⟩ := HH7.out.stO HOO.out 5 (by omega)
    have HS := Lib.hid hset
    clear hset
    refine wl_storeC rfl 3 _ _ rfl g _ _ rfl rfl info3 rfl hs1 hs2 ?_
    rw [put_noneA]
    go_wp2_with fail
    go_end0
    refine ⟨rfl, by rw [HD.out]; exact HS.out _ _ rfl rfl (by simp [addC, w64]), (Keep.of hb0).trans (C' := fun b => b = g) (fun b hb => ?_) (Keep.cellOne _ _ _ _)⟩
    subst hb; exact .inl (.inl hrl)
  · have e7 : (v.kind == 7) = false := by simp [h7]
    by_cases h11 : v.kind = 11
    · have e11 : (v.kind == 11) = true := by simp [h11]
      have h1 : 0 ≤ v.num ∧ v.num < (h.obs.length : Int) := by
        have := HO.out
        rw [ofV_eq, if_pos (by omega)] at this
        exact of_decide_eq_true this
      obtain ⟨n, hn⟩ : ∃ n : Nat, v.num = (n : Int) := ⟨v.num.toNat, by omega⟩
      have hnl : n < h.obs.length := by omega
      have hnlI : (n : Int) < (h.obs.length : Int) := by omega
      have ho := List.getElem?_eq_getElem hnl
      obtain ⟨o, hoe⟩ : ∃ o, o = h.obs[n] := ⟨_, rfl⟩
      rw [← hoe] at ho
      obtain ⟨g, rows, rfl, hR⟩ := (HH.out.old hb).obs.rows ho
      obtain ⟨tr0, fA, fc, hL, -, -⟩ := hR.loads ho
      have HL := Lib.hid hL
      have HOO := Lib.hid ho
      have HD : Hid (cntV x v h = { h with obs := h.obs.set n (addW x o) }) := Lib.hid (by rw [cntV_eq, if_neg h7, if_pos h11, hn]; show (_ : Hp) = _; rw [Int.toNat_natCast, modify_eq _ ho])
      have HN := Lib.hid hn
      clear h1 hn hoe hR hL HI HO ho
      go_upto_region 5 with (fail)
      refine wp_region_below 13 mixed (by kernel_rfl) ?_; simp only [List.take_succ_cons, List.take_zero, List.drop_succ_cons, List.drop_zero]
      (with_reducible refine wq_k ?_ ?_); exact rfl; intro K hK; go_simp; (with_reducible refine hK _ ?_); clear hK K
      (with_reducible refine wq_k ?_ ?_); exact rfl; intro K hK; go_simp; (with_reducible refine hK _ ?_); clear hK K
      (with_reducible refine wq_k ?_ ?_); exact rfl; intro K hK; go_simp; (with_reducible refine hK _ ?_); clear hK K
      ((with_reducible apply wq_one); exact rfl; exact rfl; intro w' hw'; first | exact vk (below_look hw' (by with_reducible assumption)) (by with_reducible assumption) | exact vn (below_look hw' (by with_reducible assumption)) (by with_reducible assumption) | exact vl (below_look hw' (by with_reducible assumption)) (by with_reducible assumption) | exact h0 (below_look hw' (by with_reducible assumption)) | exact h1 (below_look hw' (by with_reducible assumption)) | exact h2 (below_look hw' (by with_reducible assumption)) | exact h3 (below_look hw' (by with_reducible assumption)))
      (with_reducible refine wq_k ?_ ?_); exact rfl; intro K hK; go_simp; (with_reducible refine hK _ ?_); clear hK K
      ((with_reducible apply wq_one); exact rfl; exact rfl; intro w' hw'; exact vnN (below_look hw' (by with_reducible assumption)) (by with_reducible assumption) (by with_reducible assumption))
      (with_reducible refine wq_k ?_ ?_); exact rfl; intro K hK; go_simp; (with_reducible refine hK _ ?_); clear hK K
      (with_reducible refine wq_k ?_ ?_); exact rfl; intro K hK; go_simp; (with_reducible refine hK _ ?_); clear hK K
      ((with_reducible apply wq_one); exact rfl; exact rfl; intro w' hw'; exact (HL.out w' hw').k)
      (with_reducible refine wq_k ?_ ?_); exact rfl; intro K hK; go_simp; (with_reducible refine hK _ ?_); clear hK K
      (with_reducible refine wq_k ?_ ?_); exact rfl; intro K hK; go_simp; (with_reducible refine hK _ ?_); clear hK K
      (with_reducible refine wq_k ?_ ?_); exact rfl; intro K hK; go_simp; (with_reducible refine hK _ ?_); clear hK K
      (with_reducible refine wq_k ?_ ?_); exact rfl; intro K hK; go_simp; (with_reducible refine hK _ ?_); clear hK K
      intro w7 hb7
      have hb0 := hb.trans (hb7.mono hb.size)
      have HH7 := Lib.hid (HH.out.old hb0)
      clear hp hh HL hb7 hb
      obtain ⟨hs1, hs2, hrl, hset⟩ := HH7.out.stO HOO.out 6 (by omega)
      have HS := Lib.hid hset
      clear hset
      refine wl_storeC rfl 3 _ _ rfl g _ _ rfl rfl info3 rfl hs1 hs2 ?_
      rw [put_noneA]
      go_wp2_with fail
      go_end0
      refine ⟨rfl, by rw [HD.out]; exact HS.out _ _ rfl rfl (by simp [addW, w64]), (Keep.of hb0).trans (C' := fun b => b = g) (fun b hb => ?_) (Keep.cellOne _ _ _ _)⟩
      subst hb; exact .inl (.inl hrl)
    · have e11 : (v.kind == 11) = false := by simp [h11]
      by_cases h8 : v.kind = 8
      · have e8 : (v.kind == 8) = true := by simp [h8]
        have h1 : 0 ≤ v.num ∧ v.num < (h.bus.length : Int) := by
          have := HO.out
          rw [ofV_eq, if_neg (by omega), if_pos h8] at this
          exact of_decide_eq_true this
        obtain ⟨n, hn⟩ : ∃ n : Nat, v.num = (n : Int) := ⟨v.num.toNat, by omega⟩
        have hnl : n < h.bus.length := by omega
        have hnlI : (n : Int) < (h.bus.length : Int) := by omega
        have ho := List.getElem?_eq_getElem hnl
        obtain ⟨o, hoe⟩ : ∃ o, o = h.bus[n] := ⟨_, rfl⟩
        rw [← hoe] at ho
        obtain ⟨g, rows, rfl, hR⟩ := (HH.out.old hb).bus.rows ho
        obtain ⟨fA, fc, hL, -⟩ := hR.loads ho
        have HL := Lib.hid hL
        have HOO := Lib.hid ho
        have HD : Hid (cntV x v h = { h with bus := h.bus.set n (addB x o) }) := Lib.hid (by rw [cntV_eq, if_neg h7, if_neg h11, if_pos h8, hn]; show (_ : Hp) = _; rw [Int.toNat_natCast, modify_eq _ ho])
        have HN := Lib.hid hn
        clear h1 hn hoe hR hL HI HO ho
        go_upto_region 7 with (fail)
        refine wp_region_below 13 mixed (by kernel_rfl) ?_; simp only [List.take_succ_cons, List.take_zero, List.drop_succ_cons, List.drop_zero]
        (with_reducible refine wq_k ?_ ?_); exact rfl; intro K hK; go_simp; (with_reducible refine hK _ ?_); clear hK K
        (with_reducible refine wq_k ?_ ?_); exact rfl; intro K hK; go_simp; (with_reducible refine hK _ ?_); clear hK K
        (with_reducible refine wq_k ?_ ?_); exact rfl; intro K hK; go_simp; (with_reducible refine hK _ ?_); clear hK K
        ((with_reducible apply wq_one); exact rfl; exact rfl; intro w' hw'; first | exact vk (below_look hw' (by with_reducible assumption)) (by with_reducible assumption) | exact vn (below_look hw' (by with_reducible assumption)) (by with_reducible assumption) | exact vl (below_look hw' (by with_reducible assumption)) (by with_reducible assumption) | exact h0 (below_look hw' (by with_reducible assumption)) | exact h1 (below_look hw' (by with_reducible assumption)) | exact h2 (below_look hw' (by with_reducible assumption)) | exact h3 (below_look hw' (by with_reducible assumption)))
        (with_reducible refine wq_k ?_ ?_); exact rfl; intro K hK; go_simp; (with_reducible refine hK _ ?_); clear hK K
        ((with_reducible apply wq_one); exact rfl; exact rfl; intro w' hw'; exact vnN (below_look hw' (by with_reducible assumption)) (by with_reducible assumption) (by with_reducible assumption))
        (with_reducible refine wq_k ?_ ?_); exact rfl; intro K hK; go_simp; (with_reducible refine hK _ ?_); clear hK K
        (with_reducible refine wq_k ?_ ?_); exact rfl; intro K hK; go_simp; (with_reducible refine hK _ ?_); clear hK K
        ((with_reducible apply wq_one); exact rfl; exact rfl; intro w' hw'; exact (HL.out w' hw').c)
        (with_reducible refine wq_k ?_ ?_); exact rfl; intro K hK; go_simp; (with_reducible refine hK _ ?_); clear hK K
        (with_reducible refine wq_k ?_ ?_); exact rfl; intro K hK; go_simp; (with_reducible refine hK _ ?_); clear hK K
        (with_reducible refine wq_k ?_ ?_); exact rfl; intro K hK; go_simp; (with_reducible refine hK _ ?_); clear hK K
        (with_reducible refine wq_k ?_ ?_); exact rfl; intro K hK; go_simp; (with_reducible refine hK _ ?_); clear hK K
        intro w7 hb7
        have hb0 := hb.trans (hb7.mono hb.size)
        have HH7 := Lib.hid (HH.out.old hb0)
        clear hp hh HL hb7 hb
        obtain ⟨hs1, hs2, hrl, hset⟩ := HH7.out.stB HOO.out
        have HS := Lib.hid hset
        clear hset
        refine wl_storeC rfl 3 _ _ rfl g _ _ rfl rfl info3 rfl hs1 hs2 ?_
        rw [put_noneA]
        go_wp2_with fail
        go_end0
        refine ⟨rfl, by rw [HD.out]; exact HS.out _ _ rfl rfl, (Keep.of hb0).trans (C' := fun b => b = g) (fun b hb => ?_) (Keep.cellOne _ _ _ _)⟩
        subst hb; exact .inl (.inr hrl)
      · have e8 : (v.kind == 8) = false := by simp [h8]
        have HE : Hid (cntV x v h = if hasK v.kind then cntVs x v.parts h else h) := Lib.hid (by rw [cntV_eq]; simp [h7, h8, h11])
        have HO2 : Hid (hasK v.kind = true → ∀ u, u ∈ v.parts → ofV h.obs.length h.bus.length u = true) := Lib.hid fun hk => by
          have := HO.out
          rw [ofV_eq, if_neg (by omega), if_neg h8, if_pos hk] at this
          exact ofVs_iff.1 this
        clear h7 h8 h11 HO
        obtain ⟨f5, hf5⟩ : ∃ b : Bool, b = (v.kind == 5) := ⟨_, rfl⟩
        obtain ⟨f6, hf6⟩ : ∃ b : Bool, b = (v.kind == 6) := ⟨_, rfl⟩
        obtain ⟨f9, hf9⟩ : ∃ b : Bool, b = (v.kind == 9) := ⟨_, rfl⟩
        obtain ⟨f10, hf10⟩ : ∃ b : Bool, b = (v.kind == 10) := ⟨_, rfl⟩
        have d5 := hf5.symm
        have d6 := hf6.symm
        have d9 := hf9.symm
        have d10 := hf10.symm
        obtain ⟨q46, hq46⟩ : ∃ b : Bool, b = (f5 || (f6 || (f9 || f10))) := ⟨_, rfl⟩
        have HQ := Lib.hid hq46
        have HK : Hid (q46 = hasK v.kind) := Lib.hid (by rw [hq46, hasK_eq, hf5, hf6, hf9, hf10])
        clear hf5 hf6 hf9 hf10 hq46
        go_upto_if 55 with (fail)
        go_cut [55] (fun s46 wx => s46 = .bool q46 ∧ W = wx)
        case first =>
          cases f5 <;> cases f6 <;> cases f9 <;> cases f10
          all_goals
            go_wp2_with fail
            go_meet
            exact ⟨by rw [HQ.out]; rfl, rfl⟩
        case rest =>
          obtain ⟨rfl, rfl⟩ := hcut
          clear d5 d6 d9 d10 HQ
          have HH1 := Lib.hid (HH.out.old hb)
          have HK1 := Lib.hid (Keep.of (C := Cnt G k) hb)
          cases q46 with
          | false =>
            have HF : Hid (cntV x v h = h) := Lib.hid (by rw [HE.out, ← HK.out, if_neg (by simp)])
            go_wp2_with fail
            go_end0
            exact ⟨rfl, by rw [HF.out]; exact HH1.out, HK1.out⟩
          | true =>
            have HF : Hid (cntV x v h = cntVs x v.parts h) := Lib.hid (by rw [HE.out, ← HK.out, if_pos rfl])
            have HOf := Lib.hid (HO2.out HK.out.symm)
            have H0 : Hid (HAt _ G k p (cntVs x (v.parts.take 0) h) oA oc bA bc m lA lc) := Lib.hid (by rw [List.take_zero, cntVs]; exact HH1.out)
            have hsz := hb.size
            clear HE HO2 HH1
            go_upto_region 12 with (fail)
            apply wp_region_lit
            (with_reducible refine wl_k ?_ ?_); exact rfl; intro K hK; go_simp; refine hK _ ?_; clear hK K
            (first | ((with_reducible apply wl_oneG); exact rfl; exact rfl; first | exact vk (by with_reducible assumption) (by with_reducible assumption) | exact vn (by with_reducible assumption) (by with_reducible assumption) | exact vl (by with_reducible assumption) (by with_reducible assumption) | exact vts (by with_reducible assumption) (by with_reducible assumption) | exact vs (by with_reducible assumption) (by with_reducible assumption)) | ((with_reducible apply wl_rowG); exact rfl; exact rfl; first | exact vrow (by with_reducible assumption) (by with_reducible assumption) | exact vt (by with_reducible assumption) (by with_reducible assumption)))
            (with_reducible refine wl_k ?_ ?_); exact rfl; intro K hK; go_simp; refine hK _ ?_; clear hK K
            (with_reducible refine wl_k ?_ ?_); exact rfl; intro K hK; go_simp; refine hK _ ?_; clear hK K
            clear hh hp hb hlq HH
            go_wp2_with fail
            go_loopw [63] (fun i wr => ∃ j : Nat, j ≤ l3 ∧ i = .int .i64 (j : Int) ∧ Hid (HAt wr G k p (cntVs x (v.parts.take j) h) oA oc bA bc m lA lc) ∧ Hid (Keep (Cnt G k) w wr)) (fun i _ => l3 - (intOf i).toNat)
            case atStart => exact ⟨0, by omega, rfl, H0, HK1⟩
            case round =>
              clear H0 HK1 hsz
              obtain ⟨j, hj, rfl, HA, HKe⟩ := hrel
              have hsz := HKe.out.size
              go_upto_region 13 with (fail)
              by_cases hlt : j < l3
              · have hltI : (j : Int) < (l3 : Int) := by omega
                obtain ⟨b2, off2, u, rowu, rfl, -, hu, hua, hrow⟩ := (HR.out.vs.keep HKe.out (fun b hb => Cnt.imm hb)).getB hlt
                have HST := Lib.hid (cntVs_take (by_ := x) hu h)
                have HIU := Lib.hid (HI.out u (List.mem_of_getElem? hu))
                have HOU := Lib.hid (HOf.out u (List.mem_of_getElem? hu))
                have HUA := Lib.hid hua
                have HRU := Lib.hid (hrow wr (Below.refl _ _))
                have hus : rowu.size = 9 := hua.size
                have hu1 : rowu.all (·.oneCell') = true := hua.one
                have hzz := Below.refl wr.heap.size wr
                clear hu hua hrow
                apply wp_region_lit
                (with_reducible refine wl_k ?_ ?_); exact rfl; intro K hK; go_simp; refine hK _ ?_; clear hK K
                go_upto_region 14 with (fail)
                apply wp_region_lit
                (with_reducible refine wl_k ?_ ?_); exact rfl; intro K hK; go_simp; refine hK _ ?_; clear hK K
                ((with_reducible apply wl_rowG); exact rfl; exact rfl; exact HRU.out)
                (with_reducible refine wl_allV ?_); intro W5 q5 hbn hlq5 hq5; replace hzz := hzz.trans (hbn.mono hzz.size); clear hbn; simp only [put_lit, List.set_cons_zero, List.set_cons_succ]
                (with_reducible refine wl_putV hus hu1 rfl rfl rfl hq5 ?_); rw [put_noneA]; intro W6 hbx hsz hkx hnx; replace hzz := hbx _ _ (by omega) hzz; clear hq5; have hq5 := hnx; clear hnx
                have hz2 := hzz.size
                clear hbx hkx hsz hus hu1
                obtain ⟨e1, e2, -, -⟩ := cntVs_same x (v.parts.take j) h
                have HC := Lib.hid (HIU.out (cntVs x (v.parts.take j) h) W6 _ _ _ _ _ _ _ _ (HUA.out.old hzz) (HA.out.old hzz) (HFr.out.on (by omega)) (by rw [e1, e2]; exact HOU.out))
                obtain ⟨tr5, A5, l5, c5, A6, l6, c6, hru⟩ := HUA.out.row
                have HRV := Lib.hid hru
                clear hru
                go_upto_region 15 with (fail)
                apply wp_region_lit
                (with_reducible refine wl_k ?_ ?_); exact rfl; intro K hK; go_simp; refine hK _ ?_; clear hK K
                (first | ((with_reducible apply wl_oneG); exact rfl; exact rfl; first | exact vk (by with_reducible assumption) (by with_reducible assumption) | exact vn (by with_reducible assumption) (by with_reducible assumption) | exact vl (by with_reducible assumption) (by with_reducible assumption) | exact vts (by with_reducible assumption) (by with_reducible assumption) | exact vs (by with_reducible assumption) (by with_reducible assumption)) | ((with_reducible apply wl_rowG); exact rfl; exact rfl; first | exact vrow (by with_reducible assumption) (by with_reducible assumption) | exact vt (by with_reducible assumption) (by with_reducible assumption)))
                (with_reducible refine wl_k ?_ ?_); exact rfl; intro K hK; go_simp; refine hK _ ?_; clear hK K
                (with_reducible refine wl_ck ?_ ?_); exact rfl; intro K hK; go_simp; refine ⟨_, _, ⟨rfl, rfl⟩, hK _ _ ⟨_, HC.out, ?_⟩⟩; clear hK K; rintro e w7 ⟨rfl, ha7, hk7⟩; refine ⟨_, rfl, ?_⟩; simp only [put_lit, List.set_cons_zero, List.set_cons_succ]
                have HA7 := Lib.hid ha7
                have HK7 := Lib.hid ((HKe.out.trans (C' := Cnt G k) (fun b h => .inl h) (Keep.of hzz)).trans (C' := Cnt G k) (fun b h => .inl h) hk7)
                clear ha7 hk7
                rw [← HST.out] at HA7
                clear HC HRV HST HA HKe hq5 hzz
                go_wp2_with fail
                go_roundw
                case rel => exact ⟨j + 1, by omega, by go_num, HA7, HK7⟩
                case measure => simp [intOf]; omega
              · have hltI : ¬ (j : Int) < (l3 : Int) := by omega
                have HF2 : Hid (cntVs x (v.parts.take j) h = cntV x v h) := Lib.hid (by rw [HF.out, List.take_of_length_le (by rw [HL3.out]; omega)])
                apply wp_region_lit
                (with_reducible refine wl_k ?_ ?_); exact rfl; intro K hK; go_simp; refine hK _ ?_; clear hK K
                go_wp2_with fail
                go_end0
                exact ⟨rfl, by rw [← HF2.out]; exact HA.out, HKe.out⟩
end Go.Proofs.Ytpamocglecangaa
namespace Go.Proofs.Ytpamocglecangaa
open Go.RowKit Go.Proofs.Ytpamocglecangaa.Nm
set_option linter.unusedSimpArgs false
theorem res35 {fn : Func} {p : Tmp} (h : fn.results = #[.cell p 35]) (tmps : Array Value) (w : World) (g : Nat) (hp : tmps.getD p undef = .pointer (some ⟨g, 0, none⟩)) {row : Array Value} (hs : row.size = 9) (hg : w.heap[g]? = some (.cells row 35 (0, 0))) : (results fn tmps).run Try.prog w = .ok (.agg row) w := by
  have hp' : tmps[p]?.getD undef = .pointer (some ⟨g, 0, none⟩) := by simpa using hp
  have l1 : (loadVar 35 ⟨g, 0, none⟩).run Try.prog w = .ok (.agg row) w := by
    have : RowAt w 35 ⟨g, 0, none⟩ row := row_mid (n := 9) hg (by simp [← hs]) u35 rfl hs info35
    unfold RowAt at this; exact this
  unfold results
  simp [h, hp', asAddr, l1, Result.andThen]
theorem res35t {fn : Func} {p q : Tmp} (h : fn.results = #[.cell p 35, .tmp q]) (tmps : Array Value) (w : World) (g : Nat) (hp : tmps.getD p undef = .pointer (some ⟨g, 0, none⟩)) {row : Array Value} {x : Value} (hq : tmps.getD q undef = x) (hs : row.size = 9) (hg : w.heap[g]? = some (.cells row 35 (0, 0))) : (results fn tmps).run Try.prog w = .ok (.tuple #[.agg row, x]) w := by
  have hp' : tmps[p]?.getD undef = .pointer (some ⟨g, 0, none⟩) := by simpa using hp
  have hq' : tmps[q]?.getD undef = x := by simpa using hq
  have l1 : (loadVar 35 ⟨g, 0, none⟩).run Try.prog w = .ok (.agg row) w := by
    have : RowAt w 35 ⟨g, 0, none⟩ row := row_mid (n := 9) hg (by simp [← hs]) u35 rfl hs info35
    unfold RowAt at this; exact this
  unfold results
  simp [h, hp', hq', asAddr, l1, Result.andThen]
theorem res35tt {fn : Func} {p q r : Tmp} (h : fn.results = #[.cell p 35, .tmp q, .tmp r]) (tmps : Array Value) (w : World) (g : Nat) (hp : tmps.getD p undef = .pointer (some ⟨g, 0, none⟩)) {row : Array Value} {x y : Value} (hq : tmps.getD q undef = x) (hr : tmps.getD r undef = y) (hs : row.size = 9) (hg : w.heap[g]? = some (.cells row 35 (0, 0))) : (results fn tmps).run Try.prog w = .ok (.tuple #[.agg row, x, y]) w := by
  have hp' : tmps[p]?.getD undef = .pointer (some ⟨g, 0, none⟩) := by simpa using hp
  have hq' : tmps[q]?.getD undef = x := by simpa using hq
  have hr' : tmps[r]?.getD undef = y := by simpa using hr
  have l1 : (loadVar 35 ⟨g, 0, none⟩).run Try.prog w = .ok (.agg row) w := by
    have : RowAt w 35 ⟨g, 0, none⟩ row := row_mid (n := 9) hg (by simp [← hs]) u35 rfl hs info35
    unfold RowAt at this; exact this
  unfold results
  simp [h, hp', hq', hr', asAddr, l1, Result.andThen]
theorem Levels_nil (w : World) : Calls Try.prog 39 #[.pointer none] w fun e w' => e = .returned (.int .i64 0) ∧ Below w.heap.size w w' := by
  have hb := Below.refl w.heap.size w
  go_enter Try.func39, Try.ntmps39
  go_wp2_with fail
  go_ret
  exact ⟨rfl, hb⟩
def arrV (nb : Nat) (v : Va) : Bool := decide (v.kind = 8 ∧ 0 ≤ v.num ∧ v.num < (nb : Int))
theorem array_nil {v : Va} {w : World} {D : Nat → Prop} {row : Array Value} (hv : VAt w D v row) :
    Calls Try.prog 78 #[.pointer none, .agg row] w fun e w' => e = .returned (.bool false) ∧ Below w.heap.size w w' := by
  have hb := Below.refl w.heap.size w
  clear hv
  go_enter Try.func78, Try.ntmps78
  go_upto_region 0 with (fail)
  apply wp_region_lit
  (with_reducible refine wl_boxV rfl ?_); intro W q hbn hlq hq; replace hb := hb.trans (hbn.mono hb.size); clear hbn; simp only [put_lit, List.set_cons_zero, List.set_cons_succ]
  (with_reducible refine wl_k ?_ ?_); exact rfl; intro K hK; go_simp; refine hK _ ?_; clear hK K
  go_upto_region 1 with (fail)
  apply wp_region_lit
  (with_reducible refine wl_k ?_ ?_); exact rfl; intro K hK; go_simp; refine hK _ ?_; clear hK K
  (with_reducible refine wl_k ?_ ?_); exact rfl; intro K hK; go_simp; refine hK _ ?_; clear hK K
  (with_reducible refine wl_k ?_ ?_); exact rfl; intro K hK; go_simp; refine hK _ ?_; clear hK K
  (first | ((with_reducible refine wl_skipU ?_ ?_ ?_); exact rfl; exact rfl) | ((with_reducible refine wl_skip ?_ ?_); exact rfl; simp only [put_lit, List.set_cons_zero, List.set_cons_succ]))
  (first | ((with_reducible refine wl_skipU ?_ ?_ ?_); exact rfl; exact rfl) | ((with_reducible refine wl_skip ?_ ?_); exact rfl; simp only [put_lit, List.set_cons_zero, List.set_cons_succ]))
  (first | ((with_reducible refine wl_skipU ?_ ?_ ?_); exact rfl; exact rfl) | ((with_reducible refine wl_skip ?_ ?_); exact rfl; simp only [put_lit, List.set_cons_zero, List.set_cons_succ]))
  (with_reducible refine wl_k ?_ ?_); exact rfl; intro K hK; go_simp; refine hK _ ?_; clear hK K
  (with_reducible refine wl_k ?_ ?_); exact rfl; intro K hK; go_simp; refine hK _ ?_; clear hK K
  (first | ((with_reducible refine wl_skipU ?_ ?_ ?_); exact rfl; exact rfl) | ((with_reducible refine wl_skip ?_ ?_); exact rfl; simp only [put_lit, List.set_cons_zero, List.set_cons_succ]))
  (first | ((with_reducible refine wl_skipU ?_ ?_ ?_); exact rfl; exact rfl) | ((with_reducible refine wl_skip ?_ ?_); exact rfl; simp only [put_lit, List.set_cons_zero, List.set_cons_succ]))
  (first | ((with_reducible refine wl_skipU ?_ ?_ ?_); exact rfl; exact rfl) | ((with_reducible refine wl_skip ?_ ?_); exact rfl; simp only [put_lit, List.set_cons_zero, List.set_cons_succ]))
  (with_reducible refine wl_k ?_ ?_); exact rfl; intro K hK; go_simp; refine hK _ ?_; clear hK K
  (with_reducible refine wl_k ?_ ?_); exact rfl; intro K hK; go_simp; refine hK _ ?_; clear hK K
  go_wp2_with fail
  go_ret
  exact ⟨rfl, hb⟩
end Go.Proofs.Ytpamocglecangaa
namespace Go.Proofs.Ytpamocglecangaa
open Go.RowKit Go.Proofs.Ytpamocglecangaa.Nm
set_option linter.unusedSimpArgs false
theorem HAt.lens {w : World} {G : Gh} {k p : Nat} {h : Hp} {oA : Option Addr} {oc : Nat} {bA : Option Addr} {bc m : Nat} {lA : Option Addr} {lc : Nat} (hh : HAt w G k p h oA oc bA bc m lA lc) : h.obs.length ≤ oc ∧ oc ≤ maxLen ∧ h.bus.length ≤ bc ∧ bc ≤ maxLen ∧ h.lev.length ≤ lc ∧ lc ≤ maxLen := by
  obtain ⟨r1, g1, e1, -⟩ := hh.obs
  obtain ⟨r2, g2, e2, -⟩ := hh.bus
  obtain ⟨r3, g3, e3, -⟩ := hh.lev
  exact ⟨by rw [← e1]; exact g1.cap, g1.max, by rw [← e2]; exact g2.cap, g2.max, by rw [← e3]; exact g3.cap, g3.max⟩
theorem HAt.hdr {w : World} {G : Gh} {k p : Nat} {h : Hp} {oA : Option Addr} {oc : Nat} {bA : Option Addr} {bc m : Nat} {lA : Option Addr} {lc : Nat} (hh : HAt w G k p h oA oc bA bc m lA lc) : Hdr w p h.obs.length h.bus.length := ⟨_, _, _, _, _, _, _, _, hh.blk⟩
theorem of_heap {w : World} {G : Gh} {k p : Nat} {h : Hp} {oA : Option Addr} {oc : Nat} {bA : Option Addr} {bc m : Nat} {lA : Option Addr} {lc : Nat} (hh : HAt w G k p h oA oc bA bc m lA lc) {D : Nat → Prop} {v : Va} {row : Array Value} (hv : VAt w D v row) : Calls Try.prog 73 #[.pointer (some ⟨p, 0, none⟩), .agg row] w fun e w' => e = .returned (.bool (ofV h.obs.length h.bus.length v)) ∧ Below w.heap.size w w' :=
  of_any p _ _ (Nat.le_trans hh.lens.1 hh.lens.2.1) (Nat.le_trans hh.lens.2.2.1 hh.lens.2.2.2.1) v w D row hv hh.hdr
theorem row35 {w : World} {q : Nat} {row : Array Value} {t : TypeId} {fr : Nat × Nat} (h : w.heap[q]? = some (.cells row t fr)) (hs : row.size = 9) : RowAt w 35 ⟨q, 0, none⟩ row := row_mid (n := 9) h (by simp [← hs]) u35 rfl hs info35
/-- A buffer that a value names. -/
theorem arrV.get {h : Hp} {v : Va} (ha : arrV h.bus.length v = true) : ∃ (n : Nat) (b : Bu), v.kind = 8 ∧ v.num = (n : Int) ∧ n < h.bus.length ∧ h.bus[n]? = some b := by
  have := of_decide_eq_true ha
  exact ⟨v.num.toNat, h.bus[v.num.toNat]'(by omega), this.1, by omega, by omega, List.getElem?_eq_getElem _⟩
set_option maxHeartbeats 4000000 in
set_option maxRecDepth 100000 in
theorem alone_nil {w : World} {v x : Va} {D : Nat → Prop} {row rowx : Array Value} (hv : VAt w D v row) (hx : VAt w D x rowx) :
    Calls Try.prog 79 #[.pointer none, .agg row, .agg rowx] w fun e w' => e = .returned (.int .i64 4) ∧ Below w.heap.size w w' := by
  have HV := Lib.hid hv
  have hs1 := hv.size
  have hb := Below.refl w.heap.size w
  clear hv hx
  go_enter Try.func79, Try.ntmps79
  go_upto_region 0 with (fail)
  apply wp_region_lit
  (with_reducible refine wl_boxV rfl ?_); intro W q hbn hlq hq; replace hb := hb.trans (hbn.mono hb.size); clear hbn; simp only [put_lit, List.set_cons_zero, List.set_cons_succ]
  have lthqqx := heap_lt hq; (with_reducible refine wl_boxV rfl ?_); intro W2 qx hbn hlqx hqx; replace hq := below_look hbn hq; replace hb := hb.trans (hbn.mono hb.size); clear hbn; simp only [put_lit, List.set_cons_zero, List.set_cons_succ]
  (with_reducible refine wl_k ?_ ?_); exact rfl; intro K hK; go_simp; refine hK _ ?_; clear hK K
  have HC := Lib.hid (array_nil (HV.out.old hb))
  go_upto_region 1 with (fail)
  apply wp_region_lit
  (with_reducible refine wl_k ?_ ?_); exact rfl; intro K hK; go_simp; refine hK _ ?_; clear hK K
  ((with_reducible apply wl_rowG); exact rfl; exact rfl; exact row35 hq hs1)
  (with_reducible refine wl_ck ?_ ?_); exact rfl; intro K hK; go_simp; refine ⟨_, _, ⟨rfl, rfl⟩, hK _ _ ⟨_, HC.out, ?_⟩⟩; clear hK K; rintro e w7 ⟨rfl, hb7⟩; refine ⟨_, rfl, ?_⟩; simp only [put_lit, List.set_cons_zero, List.set_cons_succ]
  (with_reducible refine wl_k ?_ ?_); exact rfl; intro K hK; go_simp; refine hK _ ?_; clear hK K
  (with_reducible refine wl_k ?_ ?_); exact rfl; intro K hK; go_simp; refine hK _ ?_; clear hK K
  (first | ((with_reducible refine wl_skipU ?_ ?_ ?_); exact rfl; exact rfl) | ((with_reducible refine wl_skip ?_ ?_); exact rfl; simp only [put_lit, List.set_cons_zero, List.set_cons_succ]))
  (first | ((with_reducible refine wl_skipU ?_ ?_ ?_); exact rfl; exact rfl) | ((with_reducible refine wl_skip ?_ ?_); exact rfl; simp only [put_lit, List.set_cons_zero, List.set_cons_succ]))
  (first | ((with_reducible refine wl_skipU ?_ ?_ ?_); exact rfl; exact rfl) | ((with_reducible refine wl_skip ?_ ?_); exact rfl; simp only [put_lit, List.set_cons_zero, List.set_cons_succ]))
  (first | ((with_reducible refine wl_skipU ?_ ?_ ?_); exact rfl; exact rfl) | ((with_reducible refine wl_skip ?_ ?_); exact rfl; simp only [put_lit, List.set_cons_zero, List.set_cons_succ]))
  (with_reducible refine wl_k ?_ ?_); exact rfl; intro K hK; go_simp; refine hK _ ?_; clear hK K
  (with_reducible refine wl_k ?_ ?_); exact rfl; intro K hK; go_simp; refine hK _ ?_; clear hK K
  replace hb := hb.trans (hb7.mono hb.size)
  clear hb7 HC hq hqx
  go_upto_region 2 with (fail)
  apply wp_region_lit
  (with_reducible refine wl_k ?_ ?_); exact rfl; intro K hK; go_simp; refine hK _ ?_; clear hK K
  go_wp2_with fail
  go_ret
  exact ⟨rfl, hb⟩
end Go.Proofs.Ytpamocglecangaa
namespace Go.Proofs.Ytpamocglecangaa
open Go.RowKit Go.Proofs.Ytpamocglecangaa.Nm
set_option linter.unusedSimpArgs false
def zrow8 : Array Value := cell8 (cell4 0 ⟨#[]⟩ 0 none 0 0) 0 0 0 none 0 0
def zrow12 : Array Value := zrow ++ #[.int .i64 0, .int .i64 0, .int .i64 0]
/-- A slice's type, its elements' type, cells and bytes, and a zero element. -/
def Elt (sty ty : TypeId) (sz by0 : Nat) (z : Array Value) : Prop := Try.prog.underlying sty = some (.slice ty) ∧ 0 < sz ∧ z.size = sz ∧ ∃ i0 z0, Try.prog.info? ty = some i0 ∧ i0.zero = some z0 ∧ i0.size = sz ∧ i0.bytes = by0 ∧ z0.cells = z
theorem info35b : (Try.prog.info? 35).map (fun i => (i.zero, i.size, i.bytes)) = some (some (.agg zrow), 9, 136) := by kernel_rfl
theorem info41b : (Try.prog.info? 41).map (fun i => (i.zero, i.size, i.bytes)) = some (some (.agg zrow8), 8, 104) := by kernel_rfl
theorem info98b : (Try.prog.info? 98).map (fun i => (i.zero, i.size, i.bytes)) = some (some (.slice none 0 0), 1, 24) := by kernel_rfl
theorem info101b : (Try.prog.info? 101).map (fun i => (i.zero, i.size, i.bytes)) = some (some (.agg zrow12), 12, 160) := by kernel_rfl
theorem elt33 : Elt 33 35 9 136 zrow := by obtain ⟨i, a, b, c, d⟩ := info_parts info35b; exact ⟨u33, by decide, rfl, i, _, a, b, c, d, rfl⟩
theorem elt38 : Elt 38 41 8 104 zrow8 := by obtain ⟨i, a, b, c, d⟩ := info_parts info41b; exact ⟨u38, by decide, rfl, i, _, a, b, c, d, rfl⟩
theorem elt85 : Elt 85 98 1 24 #[.slice none 0 0] := by obtain ⟨i, a, b, c, d⟩ := info_parts info98b; exact ⟨u85, by decide, rfl, i, _, a, b, c, d, rfl⟩
theorem elt98 : Elt 98 101 12 160 zrow12 := by obtain ⟨i, a, b, c, d⟩ := info_parts info101b; exact ⟨u98, by decide, rfl, i, _, a, b, c, d, rfl⟩
theorem madeL_get {z : Array Value} {sz n m : Nat} (hz : z.size = sz) (h0 : 0 < sz) (h : m < n * sz) : (madeCells z (n * sz))[m]? = z[m % sz]? := by
  unfold madeCells
  rw [Array.getElem?_map, Array.getElem?_range, if_pos h]
  have : m % sz < z.size := by rw [hz]; exact Nat.mod_lt _ h0
  simp only [Option.map_some, hz]
  rw [Array.getElem?_eq_getElem this]
  simp [getElem!_pos, this]
theorem madeL {z : Array Value} {sz n i : Nat} (hz : z.size = sz) (h0 : 0 < sz) (hi : i < n) : (madeCells z (n * sz)).extract (i * sz) (i * sz + sz) = z := by
  have hf : i * sz + sz ≤ n * sz := by
    calc i * sz + sz = (i + 1) * sz := by rw [Nat.succ_mul]
      _ ≤ n * sz := Nat.mul_le_mul_right _ (by omega)
  apply Array.ext_getElem?
  intro m
  rw [Array.getElem?_extract, size_madeCells]
  by_cases hm : m < sz
  · rw [if_pos (by omega), madeL_get hz h0 (by omega), Nat.mul_comm, Nat.mul_add_mod, Nat.mod_eq_of_lt hm]
  · rw [if_neg (by omega), Array.getElem?_eq_none (by omega)]
/-- A made slice of zeros. -/
theorem run_makeL {sty ty : TypeId} {sz by0 : Nat} {z : Array Value} (he : Elt sty ty sz by0 z) (w : World) (n c : Nat) (hn : n ≤ c) (hc : c * by0 ≤ 140737488355328) (hm : c ≤ maxLen) :
    ∃ w', (Instr.makeSlice sty (.int .i64 (n : Int)) (.int .i64 (c : Int))).run Try.prog w = .ok (.slice (some ⟨w.heap.size, 0, none⟩) n c) w' ∧ Below w.heap.size w w' ∧ OwnL w' ty sz (some ⟨w.heap.size, 0, none⟩) c (List.replicate n z) ∧ w.heap.size < w'.heap.size := by
  obtain ⟨hu, h0, hz, i0, z0, hi, hz0, hz1, hz2, hzl⟩ := he
  have hr := run_make (P := Try.prog) w sty ty i0 z0 hu hi hz0 .i64 .i64 (n : Int) (c : Int) (by omega) (by omega) (by
    rw [hz2]
    have : ((by0 * c : Nat) : Int) ≤ 281474976710656 := by rw [Nat.mul_comm]; omega
    rwa [Int.natCast_mul] at this) (by unfold maxLen at hm; omega)
  simp only [Int.toNat_natCast] at hr
  rw [hzl, hz1] at hr
  refine ⟨_, hr, (Below.refl _ w).alloc (Nat.le_refl _) _, ⟨fun r hr => by rw [(List.mem_replicate.1 hr).2]; exact hz, by rw [List.length_replicate]; exact hn, hm, .inr ⟨_, _, rfl, ha_new rfl, size_madeCells _ _, fun i r hr => ?_⟩⟩, heap_lt (ha_new rfl)⟩
  rw [List.getElem?_replicate] at hr
  split at hr
  · rename_i hlt
    cases hr
    exact madeL hz h0 (by omega)
  · cases hr
section
variable {w : World} {ty sty : TypeId} {sz by0 : Nat} {A : Option Addr} {c : Nat} {rows : List (Array Value)} {z : Array Value}
theorem run_pushL (he : Elt sty ty sz by0 z) (oty : TypeId) (h : OwnL w ty sz A c rows) {row : Array Value} {q : Nat} {tq : TypeId} {fr : Nat × Nat} (hq : w.heap[q]? = some (.cells row tq fr)) (hsz : row.size = sz) (h1 : row.all (·.oneCell') = true) (hlen : (rows.length + 1) * by0 ≤ 140737488355328) (hm : rows.length + 1 ≤ maxLen) :
    ∃ A' c' w', (Builtin.append_ #[sty, sty] oty #[.slice A rows.length c, .slice (some ⟨q, 0, none⟩) 1 1]).run Try.prog w = .ok (.slice A' (rows.length + 1) c') w' ∧ OwnL w' ty sz A' c' (rows ++ [row]) ∧ Keep (fun b => A = some ⟨b, 0, none⟩) w w' ∧ (A' = A ∨ ∃ g, A' = some ⟨g, 0, none⟩ ∧ w.heap.size ≤ g) := by
  obtain ⟨hu, h0, hz, i0, z0, hi, hz0, hz1, hz2, hzl⟩ := he
  obtain ⟨A', c', w', a1, a2, a3, a4⟩ := run_catL (oty := oty) hu hi hz0 hz1 hz2 (by rw [hzl]; exact hz) h0 h (news := [row]) (fun r hr => by simp at hr; rw [hr]; exact hsz) (fun r hr u hu => by
    simp at hr; rw [hr] at hu
    rw [Array.all_eq_true] at h1
    obtain ⟨i, hi, rfl⟩ := List.mem_iff_getElem.1 hu
    have := h1 i (by simpa using hi)
    simpa using this) (a := ⟨q, 0, none⟩) (cn := 1) (fun j u hj => by
      rw [show (Addr.add ⟨q, 0, none⟩ j) = ⟨q, j, none⟩ by rw [Addr.add_mid]; simp, cell_of_row _ _ _ _ _ _ hq]
      simpa using hj) (by simpa using hm) (by simpa using hlen)
  refine ⟨A', c', w', ?_, a2, a3, a4⟩
  simpa using a1
end
section
variable {ops : Array Oper} {rest : List Oper} {o : Oper} {a : Act} {w : World} {Q : Exit → Act → World → Prop} {ty sty : TypeId} {sz by0 : Nat} {A : Option Addr} {c : Nat} {rows : List (Array Value)} {z : Array Value}
theorem wl_pushL (he : Elt sty ty sz by0 z) (hg : o.guard = none) (s x : Operand) (ho : o.op = .call { callee := .builtin .append, args := #[s, x], argTypes := #[sty, sty] }) {row : Array Value} {q : Nat} {tq : TypeId} {fr : Nat × Nat}
    (hs : a.eval s = .slice A rows.length c) (hx : a.eval x = .slice (some ⟨q, 0, none⟩) 1 1) (h : OwnL w ty sz A c rows) (hq : w.heap[q]? = some (.cells row tq fr)) (hsz : row.size = sz) (h1 : row.all (·.oneCell') = true) (hlen : (rows.length + 1) * by0 ≤ 140737488355328) (hm : rows.length + 1 ≤ maxLen)
    (hK : ∀ A' c' w', OwnL w' ty sz A' c' (rows ++ [row]) → Keep (fun b => A = some ⟨b, 0, none⟩) w w' → (A' = A ∨ ∃ g, A' = some ⟨g, 0, none⟩ ∧ w.heap.size ≤ g) → wpList Try.prog ops Q rest (a.put o.dst (.slice A' (rows.length + 1) c')) w') : wpList Try.prog ops Q (o :: rest) a w := by
  obtain ⟨A', c', w', hr, h2, h3, h4⟩ := run_pushL he o.type h hq hsz h1 hlen hm
  refine wl_w hg ?_ (hK A' c' w' h2 h3 h4)
  unfold execOp
  simp only [ho, resolve, invoke, builtin, Sem.run_bind, Sem.run_pure, Result.andThen_ok, List.map_toArray, List.map_cons, List.map_nil, hs, hx, hr]
theorem wl_makeL (he : Elt sty ty sz by0 z) (hg : o.guard = none) (x y : Operand) (ho : o.op = .makeSlice sty x y) {n c : Nat} (hx : a.eval x = .int .i64 (n : Int)) (hy : a.eval y = .int .i64 (c : Int)) (hn : n ≤ c) (hc : c * by0 ≤ 140737488355328) (hm : c ≤ maxLen)
    (hK : ∀ W p, Below w.heap.size w W → w.heap.size ≤ p → p < W.heap.size → OwnL W ty sz (some ⟨p, 0, none⟩) c (List.replicate n z) → wpList Try.prog ops Q rest (a.put o.dst (.slice (some ⟨p, 0, none⟩) n c)) W) : wpList Try.prog ops Q (o :: rest) a w := by
  obtain ⟨w', hr, h2, h3, h4⟩ := run_makeL he w n c hn hc hm
  refine wl_w hg ?_ (hK w' _ h2 (Nat.le_refl _) h4 h3)
  unfold execOp
  simp only [ho, Sem.run_bind, Sem.run_pure, Result.andThen_ok, hx, hy, hr]
end
section
variable {md : Region.Mode} {ops : Array Oper} {Q : Exit → Act → World → Prop} {S : World → Prop} {fuel : Nat} {listed : Array Bool} {a : Act} {w : World} {i : Nat} {oi : Oper} {ty sty : TypeId} {sz by0 : Nat} {A : Option Addr} {c : Nat} {rows : List (Array Value)} {z : Array Value}
end
end Go.Proofs.Ytpamocglecangaa
namespace Go.Proofs.Ytpamocglecangaa
open Go.RowKit Go.Proofs.Ytpamocglecangaa.Nm
set_option linter.unusedSimpArgs false
def Lw (w : World) (D : Nat → Prop) (b : Nat) : Prop := D b ∧ b < w.heap.size
/-- New rows of values, in a block of their own. -/
def NewL (w : World) (D : Nat → Prop) (l : List Va) (e : Ending) (w' : World) : Prop := ∃ A c rows, e = .returned (.slice A l.length c) ∧ OwnL w' 35 9 A c rows ∧ rows.length = l.length ∧ (∀ g, A = some ⟨g, 0, none⟩ → w.heap.size ≤ g) ∧ (∀ (j : Nat) (v : Va) (row : Array Value), l[j]? = some v → rows[j]? = some row → VAt w' D v row) ∧ Below w.heap.size w w'
theorem build35 (ev : Operand → Value) (o : Oper) (ho : o.op = .build 35 #[]) (w : World) : (execOp ev o).run Try.prog w = .ok (.value (.agg zrow)) w := by
  unfold execOp
  simp only [ho]
  kernel_rfl
set_option maxHeartbeats 8000000 in
set_option maxRecDepth 100000 in
theorem taken_any {G : Gh} {k p : Nat} {h : Hp} {w : World} {oA : Option Addr} {oc : Nat} {bA : Option Addr} {bc m : Nat} {lA : Option Addr} {lc : Nat} (hh : HAt w G k p h oA oc bA bc m lA lc) {l : List Va} {D : Nat → Prop} {A0 : Option Addr} {n c0 : Nat} (hv : VsAt w D l A0 n c0) (hn : n ≤ 1000000) :
    Calls Try.prog 81 #[.pointer (some ⟨p, 0, none⟩), .slice A0 n c0] w (NewL w D (takenV h l)) := by
  have HR : Hid (VsAt w (Lw w D) l A0 n c0) := Lib.hid hv.low
  have HH := Lib.hid hh
  have HL := Lib.hid hv.len
  have hb := Below.refl w.heap.size w
  clear hv hh
  go_enter Try.func81, Try.ntmps81
  go_upto_region 0 with (fail)
  apply wp_region_lit
  (with_reducible refine wl_k ?_ ?_); exact rfl; intro K hK; go_simp; refine hK _ ?_; clear hK K
  go_upto_region 1 with (fail)
  apply wp_region_lit
  (with_reducible refine wl_k ?_ ?_); exact rfl; intro K hK; go_simp; refine hK _ ?_; clear hK K
  (with_reducible refine wl_k ?_ ?_); exact rfl; intro K hK; go_simp; refine hK _ ?_; clear hK K
  refine wl_makeL elt33 rfl _ _ rfl (n := 0) (c := n) rfl rfl (Nat.zero_le _) (by omega) (by unfold maxLen; omega) ?_
  intro W q hbn hlq hlt hown
  have HO : Hid (OwnL W 35 9 (some ⟨q, 0, none⟩) n []) := Lib.hid (by simpa using hown)
  simp only [put_lit, List.set_cons_zero, List.set_cons_succ]
  replace hb := hb.trans (hbn.mono hb.size)
  clear hbn hown
  (with_reducible refine wl_k ?_ ?_); exact rfl; intro K hK; go_simp; refine hK _ ?_; clear hK K
  go_upto_region 2 with (fail)
  apply wp_region_lit
  (with_reducible refine wl_k ?_ ?_); exact rfl; intro K hK; go_simp; refine hK _ ?_; clear hK K
  (with_reducible refine wl_k ?_ ?_); exact rfl; intro K hK; go_simp; refine hK _ ?_; clear hK K
  (with_reducible refine wl_k ?_ ?_); exact rfl; intro K hK; go_simp; refine hK _ ?_; clear hK K
  go_wp2_with fail
  go_loopw [5, 13] (fun s i wr => ∃ (j : Nat) (A : Option Addr) (c : Nat) (rows : List (Array Value)), j ≤ n ∧ s = .slice A j c ∧ i = .int .i64 (j : Int) ∧ Hid (rows.length = j) ∧ Hid (OwnL wr 35 9 A c rows) ∧ Hid (∀ g, A = some ⟨g, 0, none⟩ → w.heap.size ≤ g) ∧ Hid (∀ (j : Nat) (v : Va) (row : Array Value), (takenV h l)[j]? = some v → rows[j]? = some row → VAt wr (Lw w D) v row) ∧ Below w.heap.size w wr) (fun _ i _ => n - (intOf i).toNat)
  case atStart => exact ⟨0, _, _, [], by omega, rfl, rfl, Lib.hid rfl, HO, Lib.hid (fun g e => by cases e; omega), Lib.hid (fun j v row _ hr => by simp at hr), hb⟩
  case round =>
    clear hb HO hlq hlt
    obtain ⟨j, A, c, rows, hj, rfl, rfl, HRL, HO, HAl, HVs, hb⟩ := hrel
    go_upto_region 3 with (fail)
    by_cases hlt : j < n
    · have hltI : (j : Int) < (n : Int) := by omega
      obtain ⟨b2, off2, u, rowu, rfl, -, hu, hua, hrow⟩ := (HR.out.old hb).getB hlt
      have HRU := Lib.hid (hrow wr (Below.refl _ _))
      have HUA := Lib.hid hua
      have HST : Hid ((takenV h l)[j]? = some (if ofV h.obs.length h.bus.length u then u else va0)) := Lib.hid (by unfold takenV; rw [List.getElem?_map, hu]; rfl)
      have hus : rowu.size = 9 := hua.size
      have hu1 : rowu.all (·.oneCell') = true := hua.one
      have hzz := Below.refl wr.heap.size wr
      clear hu hua hrow
      apply wp_region_lit
      (with_reducible refine wl_k ?_ ?_); exact rfl; intro K hK; go_simp; refine hK _ ?_; clear hK K
      go_upto_region 4 with (fail)
      apply wp_region_lit
      (with_reducible refine wl_k ?_ ?_); exact rfl; intro K hK; go_simp; refine hK _ ?_; clear hK K
      ((with_reducible apply wl_rowG); exact rfl; exact rfl; exact HRU.out)
      (with_reducible refine wl_allV ?_); intro W5 q5 hbn hlq5 hq5; replace hzz := hzz.trans (hbn.mono hzz.size); clear hbn; simp only [put_lit, List.set_cons_zero, List.set_cons_succ]
      (with_reducible refine wl_putV hus hu1 rfl rfl rfl hq5 ?_); rw [put_noneA]; intro W6 hbx hsz hkx hnx; replace hzz := hbx _ _ (by omega) hzz; clear hq5; have hq5 := hnx; clear hnx
      clear hbx hkx hsz
      have hz2 := hzz.size
      obtain ⟨bb, hbb⟩ : ∃ b, b = ofV h.obs.length h.bus.length u := ⟨_, rfl⟩
      have hc := of_heap (HH.out.old (hb.trans (hzz.mono hb.size))) (HUA.out.old hzz)
      rw [← hbb] at hc HST
      have HC := Lib.hid hc
      clear hc hbb
      go_upto_region 5 with (fail)
      apply wp_region_lit
      (with_reducible refine wl_k ?_ ?_); exact rfl; intro K hK; go_simp; refine hK _ ?_; clear hK K
      ((with_reducible apply wl_rowG); exact rfl; exact rfl; exact row35 hq5 hus)
      (with_reducible refine wl_ck ?_ ?_); exact rfl; intro K hK; go_simp; refine ⟨_, _, ⟨rfl, rfl⟩, hK _ _ ⟨_, HC.out, ?_⟩⟩; clear hK K; rintro e w7 ⟨rfl, hb7⟩; refine ⟨_, rfl, ?_⟩; simp only [put_lit, List.set_cons_zero, List.set_cons_succ]
      replace hq5 := below_look hb7 hq5; replace hzz := hzz.trans (hb7.mono hzz.size); clear hb7
      (with_reducible refine wl_k ?_ ?_); exact rfl; intro K hK; go_simp; refine hK _ ?_; clear hK K
      clear HC
      cases bb with
      | true =>
        have HU2 := Lib.hid (HUA.out.old hzz)
        clear HUA HRU
        go_upto_region 7 with (fail)
        apply wp_region_lit
        (with_reducible refine wl_k ?_ ?_); exact rfl; intro K hK; go_simp; refine hK _ ?_; clear hK K
        ((with_reducible apply wl_rowG); exact rfl; exact rfl; exact row35 hq5 HU2.out.size)
        (with_reducible refine wl_bsV rfl HU2.out.size ?_)
        intro W8 q8 hbn hlq8 hq8
        simp only [put_lit, List.set_cons_zero, List.set_cons_succ]
        replace HO := Lib.hid (HO.out.old (hzz.trans (hbn.mono hzz.size)))
        replace HU2 := Lib.hid (HU2.out.old hbn)
        replace hb := hb.trans ((hzz.trans (hbn.mono hzz.size)).mono hb.size)
        have hbz := hzz.trans (hbn.mono hzz.size)
        clear hbn hq5
        refine wl_pushL elt33 rfl _ _ rfl (show _ = Value.slice A rows.length c by rw [HRL.out]; rfl) rfl HO.out hq8 HU2.out.size HU2.out.one (by have := HRL.out; omega) (by have := HRL.out; unfold maxLen; omega) ?_
        rw [HRL.out]
        intro A9 c9 W9 hown hk9 hA9
        have hsz8 := hb.size
        have hbb := Below.keep hb hk9 (fun b e => HAl.out b e)
        have HA9 : Hid (∀ g, A9 = some ⟨g, 0, none⟩ → w.heap.size ≤ g) := Lib.hid (fun g e => by
          rcases hA9 with e2 | ⟨g', e2, e3⟩
          · exact HAl.out g (by rw [← e2]; exact e)
          · rw [e] at e2; cases e2; omega)
        have HV9 : Hid (∀ (i : Nat) (v : Va) (row : Array Value), (takenV h l)[i]? = some v → (rows ++ [rowu])[i]? = some row → VAt W9 (Lw w D) v row) := Lib.hid (fun i v row hv hr => by
          have hrl := HRL.out
          rcases Nat.lt_trichotomy i rows.length with e | e | e
          · rw [List.getElem?_append_left e] at hr
            exact ((HVs.out i v row hv hr).old hbz).keep hk9 (fun b hb1 hb2 => by have := HAl.out b hb2; have := hb1.2; omega)
          · rw [e] at hv hr
            rw [List.getElem?_concat_length] at hr
            cases hr
            rw [hrl, HST.out] at hv
            cases hv
            exact HU2.out.keep hk9 (fun b hb1 hb2 => by have := HAl.out b hb2; have := hb1.2; omega)
          · rw [List.getElem?_eq_none (by simp; omega)] at hr; cases hr)
        have HO9 := Lib.hid hown
        have HRL9 : Hid ((rows ++ [rowu]).length = j + 1) := Lib.hid (by rw [List.length_append, HRL.out]; rfl)
        clear hown hk9 hA9 HO HVs HAl hb hq8 hbz hzz
        simp only [put_lit, List.set_cons_zero, List.set_cons_succ]
        (with_reducible refine wl_k ?_ ?_); exact rfl; intro K hK; go_simp; refine hK _ ?_; clear hK K
        go_wp2_with fail
        go_roundw
        case rel => exact ⟨j + 1, A9, c9, rows ++ [rowu], by omega, rfl, by go_num, HRL9, HO9, HA9, HV9, hbb⟩
        case measure => simp [intOf]; omega
      | false =>
        have HU2 := Lib.hid (zero_va W6 (Lw w D))
        clear HUA HRU
        go_upto_region 6 with (fail)
        apply wp_region_lit
        refine wl_w rfl (build35 _ _ rfl _) ?_
        simp only [put_lit, List.set_cons_zero, List.set_cons_succ]
        (with_reducible refine wl_putV rfl (zero_va w D).one hus rfl rfl hq5 ?_); rw [put_noneA]; intro W10 hbx hsz hkx hnx; replace hzz := hbx _ _ (by omega) hzz; clear hq5; have hq5 := hnx; clear hnx
        replace HU2 := Lib.hid (zero_va W10 (Lw w D))
        clear hbx hsz hkx
        go_upto_region 7 with (fail)
        apply wp_region_lit
        (with_reducible refine wl_k ?_ ?_); exact rfl; intro K hK; go_simp; refine hK _ ?_; clear hK K
        ((with_reducible apply wl_rowG); exact rfl; exact rfl; exact row35 hq5 HU2.out.size)
        (with_reducible refine wl_bsV rfl HU2.out.size ?_)
        intro W8 q8 hbn hlq8 hq8
        simp only [put_lit, List.set_cons_zero, List.set_cons_succ]
        replace HO := Lib.hid (HO.out.old (hzz.trans (hbn.mono hzz.size)))
        replace HU2 := Lib.hid (HU2.out.old hbn)
        replace hb := hb.trans ((hzz.trans (hbn.mono hzz.size)).mono hb.size)
        have hbz := hzz.trans (hbn.mono hzz.size)
        clear hbn hq5
        refine wl_pushL elt33 rfl _ _ rfl (show _ = Value.slice A rows.length c by rw [HRL.out]; rfl) rfl HO.out hq8 HU2.out.size HU2.out.one (by have := HRL.out; omega) (by have := HRL.out; unfold maxLen; omega) ?_
        rw [HRL.out]
        intro A9 c9 W9 hown hk9 hA9
        have hsz8 := hb.size
        have hbb := Below.keep hb hk9 (fun b e => HAl.out b e)
        have HA9 : Hid (∀ g, A9 = some ⟨g, 0, none⟩ → w.heap.size ≤ g) := Lib.hid (fun g e => by
          rcases hA9 with e2 | ⟨g', e2, e3⟩
          · exact HAl.out g (by rw [← e2]; exact e)
          · rw [e] at e2; cases e2; omega)
        have HV9 : Hid (∀ (i : Nat) (v : Va) (row : Array Value), (takenV h l)[i]? = some v → (rows ++ [zrow])[i]? = some row → VAt W9 (Lw w D) v row) := Lib.hid (fun i v row hv hr => by
          have hrl := HRL.out
          rcases Nat.lt_trichotomy i rows.length with e | e | e
          · rw [List.getElem?_append_left e] at hr
            exact ((HVs.out i v row hv hr).old hbz).keep hk9 (fun b hb1 hb2 => by have := HAl.out b hb2; have := hb1.2; omega)
          · rw [e] at hv hr
            rw [List.getElem?_concat_length] at hr
            cases hr
            rw [hrl, HST.out] at hv
            cases hv
            exact HU2.out.keep hk9 (fun b hb1 hb2 => by have := HAl.out b hb2; have := hb1.2; omega)
          · rw [List.getElem?_eq_none (by simp; omega)] at hr; cases hr)
        have HO9 := Lib.hid hown
        have HRL9 : Hid ((rows ++ [zrow]).length = j + 1) := Lib.hid (by rw [List.length_append, HRL.out]; rfl)
        clear hown hk9 hA9 HO HVs HAl hb hq8 hbz hzz
        simp only [put_lit, List.set_cons_zero, List.set_cons_succ]
        (with_reducible refine wl_k ?_ ?_); exact rfl; intro K hK; go_simp; refine hK _ ?_; clear hK K
        go_wp2_with fail
        go_roundw
        case rel => exact ⟨j + 1, A9, c9, rows ++ [zrow], by omega, rfl, by go_num, HRL9, HO9, HA9, HV9, hbb⟩
        case measure => simp [intOf]; omega
    · have hltI : ¬ (j : Int) < (n : Int) := by omega
      apply wp_region_lit
      (with_reducible refine wl_k ?_ ?_); exact rfl; intro K hK; go_simp; refine hK _ ?_; clear hK K
      go_upto_region 9 with (fail)
      apply wp_region_lit
      (with_reducible refine wl_k ?_ ?_); exact rfl; intro K hK; go_simp; refine hK _ ?_; clear hK K
      (with_reducible refine wl_k ?_ ?_); exact rfl; intro K hK; go_simp; refine hK _ ?_; clear hK K
      go_wp2_with fail
      go_ret
      have e1 : j = (takenV h l).length := by unfold takenV; rw [List.length_map, HL.out]; omega
      exact ⟨A, c, rows, by rw [← e1]; rfl, HO.out, HRL.out.trans e1, HAl.out, fun j v row h1 h2 => (HVs.out j v row h1 h2).weak fun b hb => hb.1, hb⟩
end Go.Proofs.Ytpamocglecangaa
namespace Go.Proofs.Ytpamocglecangaa
open Go.RowKit Go.Proofs.Ytpamocglecangaa.Nm
set_option linter.unusedSimpArgs false
def HeapAt (w : World) (G : Gh) (k p : Nat) (h : Hp) : Prop := ∃ oA oc bA bc m lA lc, HAt w G k p h oA oc bA bc m lA lc
/-- What an operation on heap k leaves. -/
structure Done (w : World) (G : Gh) (k p : Nat) (h' : Hp) (w' : World) (G' : Gh) : Prop where
  heap : HeapAt w' G' k p h'
  fr : Fr w' G'
  old : ∀ b, b < w.heap.size → G' b = G b
  new : ∀ b, w.heap.size ≤ b → G' b = none ∨ ∃ r, G' b = some (k, r)
  keep : Keep (Mine G k) w w'
theorem Done.calm {w : World} {G : Gh} {k p : Nat} {h : Hp} (hh : HeapAt w G k p h) (hf : Fr w G) {w' : World} (hb : Below w.heap.size w w') : Done w G k p h w' G := by
  obtain ⟨oA, oc, bA, bc, m, lA, lc, hh⟩ := hh
  exact ⟨⟨_, _, _, _, _, _, _, hh.old hb⟩, hf.on hb.size, fun b _ => rfl, fun b hb => .inl (hf b hb), Keep.of hb⟩
section
variable {w w' : World} {G G' : Gh} {k p : Nat} {h h' : Hp}
theorem Done.trans {W : World} {G1 : Gh} (d : Done w G k p h W G1) (d2 : Done W G1 k p h' w' G') : Done w G k p h' w' G' where
  heap := d2.heap
  fr := d2.fr
  old := fun b hb => (d2.old b (by have := d.keep.size; omega)).trans (d.old b hb)
  new := fun b hb => by
    by_cases e : b < W.heap.size
    · rw [d2.old b e]; exact d.new b hb
    · exact d2.new b (by omega)
  keep := d.keep.trans (C' := Mine G1 k) (fun b hm => by
    by_cases e : b < w.heap.size
    · unfold Mine at hm; rw [d.old b e] at hm; exact .inl hm
    · exact .inr (by omega)) d2.keep
theorem Done.va (d : Done w G k p h' w' G') {v : Va} {row : Array Value} (hv : VAt w (Imm G) v row) : VAt w' (Imm G') v row :=
  (hv.low.mono (fun _ h => h) fun b hb hl => d.keep.block b hl (fun hm => by obtain ⟨_, e, _⟩ := hm; have := hb.1; unfold Imm at this; rw [this] at e; cases e)).weak fun b hb => by
    unfold Imm; rw [d.old b hb.2]; exact hb.1
theorem Done.look (d : Done w G k p h' w' G') {b : Nat} {o : Obj} (ho : w.heap[b]? = some o) (hn : ¬ Mine G k b) : w'.heap[b]? = some o := d.keep.look ho hn
/-- A call's own variable, marked. -/
def mark (G : Gh) (k r : Nat) : Gh := fun b => if b = r then some (k, .tmp) else G b
theorem mark_same (G : Gh) (k r : Nat) : mark G k r r = some (k, .tmp) := if_pos rfl
theorem mark_not (G : Gh) (k r : Nat) : ¬ Mine (mark G k r) k r := by rintro ⟨x, e, h⟩; rw [mark_same] at e; cases e; exact h rfl
theorem Done.marked (hh : HeapAt w G k p h) (hf : Fr w G) (hb : Below w.heap.size w w') {r : Nat} (hr : w.heap.size ≤ r) (hr2 : r < w'.heap.size) : Done w G k p h w' (mark G k r) where
  heap := by
    obtain ⟨oA, oc, bA, bc, m, lA, lc, hh⟩ := hh
    exact ⟨_, _, _, _, _, _, _, (hh.regh fun b hb => if_neg (by omega)).old hb⟩
  fr := fun b hb2 => by
    unfold mark
    rw [if_neg (by omega)]
    exact hf b (by have := hb.size; omega)
  old := fun b hb => if_neg (by omega)
  new := fun b hb2 => by
    unfold mark
    split
    · exact .inr ⟨_, rfl⟩
    · exact .inl (hf b hb2)
  keep := Keep.of hb
/-- A call's own variable written. -/
theorem Done.put {W : World} {G1 : Gh} (d : Done w G k p h W G1) {r : Nat} (hr : G1 r = some (k, .tmp)) (hr2 : w.heap.size ≤ r) (hk : Keep (fun b => b = r) W w') : Done w G k p h w' G1 where
  heap := by
    obtain ⟨oA, oc, bA, bc, m, lA, lc, hh⟩ := d.heap
    exact ⟨_, _, _, _, _, _, _, hh.same (fun b hb hm => hk.block b hb fun e => by obtain ⟨x, e2, h3⟩ := hm; rw [e, hr] at e2; cases e2; exact h3 rfl) fun b hb hn => hk.block b hb fun e => by rw [e, hr] at hn; cases hn⟩
  fr := d.fr.on hk.size
  old := d.old
  new := d.new
  keep := d.keep.trans (C' := fun b => b = r) (fun b e => .inr (by omega)) hk
theorem VAt.put {v : Va} {row : Array Value} {r : Nat} (hv : VAt w (Imm G) v row) (hr : G r = some (k, .tmp)) (hk : Keep (fun b => b = r) w w') : VAt w' (Imm G) v row := hv.keep hk fun b hb e => by unfold Imm at hb; rw [e, hr] at hb; cases hb
theorem Keep.of_put {r : Nat} (hbx : ∀ B w0, B ≤ r → Below B w0 w → Below B w0 w') (hsz : w'.heap.size = w.heap.size) (hkx : ∀ g, g ≠ r → w'.heap[g]? = w.heap[g]?) : Keep (fun b => b = r) w w' :=
  have h0 := hbx 0 w (Nat.zero_le _) (Below.refl 0 w)
  ⟨h0.os, h0.tape, h0.output, by omega, fun b _ hn => hkx b hn⟩
theorem Done.quiet (d : Done w G k p h w' G') {w2 : World} (hb : Below w'.heap.size w' w2) : Done w G k p h w2 G' := d.trans (Done.calm d.heap d.fr hb)
theorem count_done (hh : HeapAt w G k p h) (hf : Fr w G) {v : Va} {row : Array Value} (hv : VAt w (Imm G) v row) (x : Int) (hx : (Lit.int .i64 x).wf = true) (ho : ofV h.obs.length h.bus.length v = true) :
    Calls Try.prog 75 #[.pointer (some ⟨p, 0, none⟩), .agg row, .int .i64 x] w fun e w' => e = .returned (.tuple #[]) ∧ Done w G k p (cntV x v h) w' G := by
  obtain ⟨oA, oc, bA, bc, m, lA, lc, hh⟩ := hh
  refine (count_any G k p x hx v h w row _ _ _ _ _ _ _ hv hh hf ho).mono ?_
  rintro e w' ⟨h1, h2, h3⟩
  exact ⟨h1, ⟨_, _, _, _, _, _, _, h2⟩, hf.on h3.size, fun b _ => rfl, fun b hb => .inl (hf b hb), (Keep.refl _ w).trans (fun b hb => .inl hb.mine) h3⟩
theorem of_done (hh : HeapAt w G k p h) {D : Nat → Prop} {v : Va} {row : Array Value} (hv : VAt w D v row) : Calls Try.prog 73 #[.pointer (some ⟨p, 0, none⟩), .agg row] w fun e w' => e = .returned (.bool (ofV h.obs.length h.bus.length v)) ∧ Below w.heap.size w w' := by
  obtain ⟨oA, oc, bA, bc, m, lA, lc, hh⟩ := hh
  exact of_heap hh hv
theorem dead_done (hh : HeapAt w G k p h) {D : Nat → Prop} {v : Va} {row : Array Value} (hv : VAt w D v row) (ho : ofV h.obs.length h.bus.length v = true) : Calls Try.prog 74 #[.pointer (some ⟨p, 0, none⟩), .agg row] w fun e w' => e = .returned (.bool (deadV h v)) ∧ Below w.heap.size w w' := by
  obtain ⟨oA, oc, bA, bc, m, lA, lc, hh⟩ := hh
  exact dead_any G k p h v w D row _ _ _ _ _ _ _ hv hh ho
end
/-- A value, and an error. -/
def ValErr (w : World) (G : Gh) (k p : Nat) (r : Hp × Va × Int) (e : Ending) (w' : World) : Prop := ∃ G' row, e = .returned (.tuple #[.agg row, .int .i64 r.2.2]) ∧ VAt w' (Imm G') r.2.1 row ∧ Done w G k p r.1 w' G'
def copyP (h : Hp) (v : Va) : Hp × Va × Int := if ofV h.obs.length h.bus.length v then (if deadV h v then (h, va0, 140) else (cntV 1 v h, v, 0)) else (h, va0, 4)
/- zret(R;;r): the zero value into the result's variable. -/
/- vput(r): a value stored into the result's variable. -/
set_option maxHeartbeats 8000000 in
set_option maxRecDepth 100000 in
theorem Copy_any {G : Gh} {k p : Nat} {h : Hp} {w : World} (hh : HeapAt w G k p h) (hf : Fr w G) {v : Va} {row : Array Value} (hv : VAt w (Imm G) v row) :
    Calls Try.prog 24 #[.pointer (some ⟨p, 0, none⟩), .agg row] w (ValErr w G k p (copyP h v)) := by
  have HX := Lib.hid hh
  have HF := Lib.hid hf
  have HV := Lib.hid hv
  have hvs := hv.size
  have hv1 := hv.one
  have hzs : zrow.size = 9 := rfl
  have zone : zrow.all (·.oneCell') = true := (zero_va w (Imm G)).one
  have hb := Below.refl w.heap.size w
  clear hh hf hv
  go_enter Try.func24, Try.ntmps24
  go_upto_region 0 with (fail)
  apply wp_region_lit
  (with_reducible refine wl_boxV rfl ?_); intro W q hbn hlq hq; replace hb := hb.trans (hbn.mono hb.size); clear hbn; simp only [put_lit, List.set_cons_zero, List.set_cons_succ]
  have lthqr := heap_lt hq; (with_reducible refine wl_allV ?_); intro W2 r hbn hlr hr; replace hq := below_look hbn hq; replace hb := hb.trans (hbn.mono hb.size); clear hbn; simp only [put_lit, List.set_cons_zero, List.set_cons_succ]
  (with_reducible refine wl_k ?_ ?_); exact rfl; intro K hK; go_simp; refine hK _ ?_; clear hK K
  have hrl : w.heap.size ≤ r := by omega
  have hql := heap_lt hq
  have HRl := Lib.hid hrl
  have hqG : G q = none := HF.out q (by omega)
  have HQ : Hid (¬ Mine (mark G k r) k q) := Lib.hid (by rintro ⟨x, e, -⟩; unfold mark at e; rw [if_neg (by omega), hqG] at e; cases e)
  have HDn := Lib.hid (Done.marked HX.out HF.out hb hrl (heap_lt hr))
  have HM := Lib.hid (mark_same G k r)
  have HNM := Lib.hid (mark_not G k r)
  have hvv := HDn.out.va HV.out
  clear HV
  have HV := Lib.hid hvv
  clear hvv HX HF hb hrl hql hqG
  obtain ⟨bb, hbb⟩ : ∃ b, b = ofV h.obs.length h.bus.length v := ⟨_, rfl⟩
  have hc := of_done HDn.out.heap HV.out
  rw [← hbb] at hc
  have HC := Lib.hid hc
  have HB := Lib.hid hbb
  clear hc hbb
  go_upto_region 1 with (fail)
  apply wp_region_lit
  (with_reducible refine wl_k ?_ ?_); exact rfl; intro K hK; go_simp; refine hK _ ?_; clear hK K
  (with_reducible refine wl_k ?_ ?_); exact rfl; intro K hK; go_simp; refine hK _ ?_; clear hK K
  (with_reducible refine wl_k ?_ ?_); exact rfl; intro K hK; go_simp; refine hK _ ?_; clear hK K
  (with_reducible refine wl_k ?_ ?_); exact rfl; intro K hK; go_simp; refine hK _ ?_; clear hK K
  ((with_reducible apply wl_rowG); exact rfl; exact rfl; exact row35 hq hvs)
  (with_reducible refine wl_ck ?_ ?_); exact rfl; intro K hK; go_simp; refine ⟨_, _, ⟨rfl, rfl⟩, hK _ _ ⟨_, HC.out, ?_⟩⟩; clear hK K; rintro e w7 ⟨rfl, hb7⟩; refine ⟨_, rfl, ?_⟩; simp only [put_lit, List.set_cons_zero, List.set_cons_succ]
  replace HDn := Lib.hid (HDn.out.quiet hb7); replace HV := Lib.hid (HV.out.old hb7); replace hq := below_look hb7 hq; replace hr := below_look hb7 hr; clear hb7
  (with_reducible refine wl_k ?_ ?_); exact rfl; intro K hK; go_simp; refine hK _ ?_; clear hK K
  (with_reducible refine wl_k ?_ ?_); exact rfl; intro K hK; go_simp; refine hK _ ?_; clear hK K
  (with_reducible refine wl_k ?_ ?_); exact rfl; intro K hK; go_simp; refine hK _ ?_; clear hK K
  clear HC
  cases bb with
  | false =>
    have HD : Hid (copyP h v = (h, va0, 4)) := Lib.hid (by unfold copyP; rw [← HB.out]; rfl)
    go_upto_region 2 with (fail)
    apply wp_region_lit
    refine wl_w rfl (build35 _ _ rfl _) ?_
    simp only [put_lit, List.set_cons_zero, List.set_cons_succ]
    (with_reducible refine wl_putV rfl zone hzs rfl rfl hr ?_); rw [put_noneA]; intro W10 hbx hsz hkx hnx
    replace HDn := Lib.hid (HDn.out.put HM.out HRl.out (Keep.of_put hbx hsz hkx))
    clear hr hbx hsz hkx
    have hr := hnx
    clear hnx
    (with_reducible refine wl_k ?_ ?_); exact rfl; intro K hK; go_simp; refine hK _ ?_; clear hK K
    go_wp2_with fail
    refine bodyPost_ret (res35t rfl _ _ r rfl rfl rfl hr) rfl ?_
    rw [HD.out]
    exact ⟨_, zrow, rfl, zero_va _ _, HDn.out⟩
  | true =>
    obtain ⟨bd, hbd⟩ : ∃ b, b = deadV h v := ⟨_, rfl⟩
    have hc := dead_done HDn.out.heap HV.out HB.out.symm
    rw [← hbd] at hc
    have HC := Lib.hid hc
    have HBD := Lib.hid hbd
    clear hc hbd
    go_upto_region 3 with (fail)
    apply wp_region_lit
    (with_reducible refine wl_k ?_ ?_); exact rfl; intro K hK; go_simp; refine hK _ ?_; clear hK K
    ((with_reducible apply wl_rowG); exact rfl; exact rfl; exact row35 hq hvs)
    (with_reducible refine wl_ck ?_ ?_); exact rfl; intro K hK; go_simp; refine ⟨_, _, ⟨rfl, rfl⟩, hK _ _ ⟨_, HC.out, ?_⟩⟩; clear hK K; rintro e w7 ⟨rfl, hb7⟩; refine ⟨_, rfl, ?_⟩; simp only [put_lit, List.set_cons_zero, List.set_cons_succ]
    replace HDn := Lib.hid (HDn.out.quiet hb7); replace HV := Lib.hid (HV.out.old hb7); replace hq := below_look hb7 hq; replace hr := below_look hb7 hr; clear hb7
    (with_reducible refine wl_k ?_ ?_); exact rfl; intro K hK; go_simp; refine hK _ ?_; clear hK K
    clear HC
    cases bd with
    | true =>
      have HD : Hid (copyP h v = (h, va0, 140)) := Lib.hid (by unfold copyP; rw [← HB.out, ← HBD.out]; rfl)
      go_upto_region 4 with (fail)
      apply wp_region_lit
      refine wl_w rfl (build35 _ _ rfl _) ?_
      simp only [put_lit, List.set_cons_zero, List.set_cons_succ]
      (with_reducible refine wl_putV rfl zone hzs rfl rfl hr ?_); rw [put_noneA]; intro W10 hbx hsz hkx hnx
      replace HDn := Lib.hid (HDn.out.put HM.out HRl.out (Keep.of_put hbx hsz hkx))
      clear hr hbx hsz hkx
      have hr := hnx
      clear hnx
      (with_reducible refine wl_k ?_ ?_); exact rfl; intro K hK; go_simp; refine hK _ ?_; clear hK K
      go_wp2_with fail
      refine bodyPost_ret (res35t rfl _ _ r rfl rfl rfl hr) rfl ?_
      rw [HD.out]
      exact ⟨_, zrow, rfl, zero_va _ _, HDn.out⟩
    | false =>
      have HD : Hid (copyP h v = (cntV 1 v h, v, 0)) := Lib.hid (by unfold copyP; rw [← HB.out, ← HBD.out]; rfl)
      have HC := Lib.hid (count_done HDn.out.heap HDn.out.fr HV.out 1 (by rfl) HB.out.symm)
      go_upto_region 5 with (fail)
      apply wp_region_lit
      (with_reducible refine wl_k ?_ ?_); exact rfl; intro K hK; go_simp; refine hK _ ?_; clear hK K
      ((with_reducible apply wl_rowG); exact rfl; exact rfl; exact row35 hq hvs)
      (with_reducible refine wl_ck ?_ ?_); exact rfl; intro K hK; go_simp; refine ⟨_, _, ⟨rfl, rfl⟩, hK _ _ ⟨_, HC.out, ?_⟩⟩; clear hK K; rintro e w8 ⟨rfl, hd8⟩; refine ⟨_, rfl, ?_⟩; simp only [put_lit, List.set_cons_zero, List.set_cons_succ]
      replace HV := Lib.hid (hd8.va HV.out); replace HDn := Lib.hid (HDn.out.trans hd8); replace hq := hd8.look hq HQ.out; replace hr := hd8.look hr HNM.out; clear hd8
      clear HC
      go_upto_region 6 with (fail)
      apply wp_region_lit
      ((with_reducible apply wl_rowG); exact rfl; exact rfl; exact row35 hq hvs)
      (with_reducible refine wl_putV hvs hv1 hzs rfl rfl hr ?_); rw [put_noneA]; intro W10 hbx hsz hkx hnx
      have HK10 := Lib.hid (Keep.of_put hbx hsz hkx)
      replace HDn := Lib.hid (HDn.out.put HM.out HRl.out HK10.out)
      replace HV := Lib.hid (HV.out.put HM.out HK10.out)
      clear hr hbx hsz hkx
      have hr := hnx
      clear hnx
      (with_reducible refine wl_k ?_ ?_); exact rfl; intro K hK; go_simp; refine hK _ ?_; clear hK K
      go_wp2_with fail
      refine bodyPost_ret (res35t rfl _ _ r rfl rfl hvs hr) rfl ?_
      rw [HD.out]
      exact ⟨_, row, rfl, HV.out, HDn.out⟩
end Go.Proofs.Ytpamocglecangaa
namespace Go.Proofs.Ytpamocglecangaa.Nm
open Go.RowKit
set_option linter.unusedSimpArgs false
section
variable {P : Program} {ops : Array Oper} {Q : Exit → Act → World → Prop} {md : Region.Mode} {S : World → Prop} {c : Nat}
/-- Whatever order is picked, and S holds behind every operation but c. -/
def wpAnyZ (P : Program) (md : Region.Mode) (ops : Array Oper) (Q : Exit → Act → World → Prop) (S : World → Prop) (c : Nat) : Nat → Array Bool → Act → World → Prop
  | 0, listed, a, w => Region.ready md ops listed = [] ∧ Q .normal a w
  | fuel + 1, listed, a, w =>
    (Region.ready md ops listed = [] → Q .normal a w) ∧
    ∀ i ∈ Region.ready md ops listed, wpOp P ops Q i (fun a' w' => (i ≠ c → S w') ∧ wpAnyZ P md ops Q S c fuel (listed.setIfInBounds i true) a' w') a w
theorem wpAny_of_Z : ∀ (fuel : Nat) (listed : Array Bool) (a : Act) (w : World), wpAnyZ P md ops Q S c fuel listed a w → wpAny P md ops Q fuel listed a w
  | 0, _, _, _, h => h
  | fuel + 1, _, _, _, h => ⟨h.1, fun i hi => wpOp_mono (fun a' w' h' => wpAny_of_Z fuel _ a' w' h'.2) (h.2 i hi)⟩
theorem wpAnyZ_first {i : Nat} {oi oc : Oper} {v : Value} (hi : ops[i]? = some oi) (hsel : ∀ (j : Nat) (o : Oper) cs b, ops[j]? = some o → o.op ≠ .select cs b)
    (hQ : ∀ c a w, Q (.panic c) (a.put oi.dst v) w → Q (.panic c) a w) (hoc : ops[c]? = some oc) (hci : ∃ e ∈ oc.after, Region.binds md e = true ∧ e.on = i) :
    ∀ (fuel : Nat) (listed : Array Bool) (a : Act) (w : World),
      (∀ j oj, ops[j]? = some oj → j ≠ i → listed.getD j true = false → (∀ e ∈ oj.after, Region.binds md e = true → e.on ≠ i) → oi.apart ops oj = true) →
      i ∈ Region.ready md ops listed → YieldsIf P ops S oi v a → S w →
      wpAnyZ P md ops Q S c fuel (listed.setIfInBounds i true) (a.put oi.dst v) w → wpAnyZ P md ops Q S c (fuel + 1) listed a w := by
  intro fuel
  induction fuel with
  | zero =>
    intro listed a w _ hr hy hS H
    refine ⟨fun h => (by rw [h] at hr; cases hr), fun j hj => ?_⟩
    by_cases hji : j = i
    · subst hji; exact hy.wpOp hi hS ⟨fun _ => hS, H⟩
    · have := ready_mono hj hji
      rw [H.1] at this
      cases this
  | succ fuel ih =>
    intro listed a w hfree hr hy hS H
    refine ⟨fun h => (by rw [h] at hr; cases hr), fun j hj => ?_⟩
    by_cases hji : j = i
    · subst hji; exact hy.wpOp hi hS ⟨fun _ => hS, H⟩
    · have h1 := H.2 j (ready_mono hj hji)
      obtain ⟨hjun, oj, hoj, hall⟩ := mem_ready.1 hj
      have hnot : ∀ e ∈ oj.after, Region.binds md e = true → e.on ≠ i := fun e he hb heq => by
        have h1 := hall e he hb
        have h0 := (mem_ready.1 hr).1
        rw [heq] at h1
        rcases Nat.lt_or_ge i listed.size with h' | h'
        · simp [h'] at h0 h1; rw [h0] at h1; cases h1
        · simp [Array.getElem?_eq_none h'] at h1
      have hjc : j ≠ c := fun e => by
        subst e
        rw [hoc] at hoj
        cases hoj
        obtain ⟨e, he, hb, heq⟩ := hci
        exact hnot e he hb heq
      have h2 := wpOp_putIf hoj (hfree j oj hoj hji hjun hnot) (fun cs b => hsel i oi cs b hi) (fun cs b => hsel j oj cs b hoj) hQ hy h1
      have hfree' : ∀ k ok, ops[k]? = some ok → k ≠ i → (listed.setIfInBounds j true).getD k true = false →
          (∀ e ∈ ok.after, Region.binds md e = true → e.on ≠ i) → oi.apart ops ok = true := fun k ok hk hki hun hno => by
        refine hfree k ok hk hki ?_ hno
        by_cases hjk : j = k
        · subst hjk; exact hjun
        · rw [getD_set_ne true hjk] at hun; exact hun
      refine wpOp_mono (fun a' w' h3 => ⟨h3.2.1, ih (listed.setIfInBounds j true) a' w' hfree' (ready_mono hr (Ne.symm hji)) h3.1 (h3.2.1 hjc) ?_⟩) h2
      rw [Array.setIfInBounds_comm _ _ hji]
      exact h3.2.2
/-- The operation c waits for number i. -/
def waits (md : Region.Mode) (ops : Array Oper) (c i : Nat) : Bool := match ops[c]? with | some oc => oc.after.toList.any fun e => Region.binds md e && (e.on == i) | none => false
theorem waits_spec {i : Nat} (h : waits md ops c i = true) : ∃ oc, ops[c]? = some oc ∧ ∃ e ∈ oc.after, Region.binds md e = true ∧ e.on = i := by
  unfold waits at h
  split at h
  · rename_i oc hoc
    rw [List.any_eq_true] at h
    obtain ⟨e, he, h2⟩ := h
    rw [Bool.and_eq_true] at h2
    exact ⟨oc, hoc, e, Array.mem_toList_iff.1 he, h2.1, by simpa using h2.2⟩
  · cases h
variable {i : Nat} {oi : Oper} {fuel : Nat} {listed : Array Bool} {a : Act} {w : World}
theorem za_val {v : Value} (hi : ops[i]? = some oi) (hs : Region.noSelect ops = true) (hf : Region.free md ops listed i = true) (hr : (Region.ready md ops listed).contains i = true) (hw : waits md ops c i = true)
    (hQ : ∀ c a w, Q (.panic c) (a.put oi.dst v) w → Q (.panic c) a w) (hS : S w) (hg : Region.wanted oi (yielded ops a.tmps) = true) (hv : ∀ w, S w → (execOp a.eval oi).run P w = .ok (.value v) w)
    (h : wpAnyZ P md ops Q S c fuel (listed.setIfInBounds i true) (a.put oi.dst v) w) : wpAnyZ P md ops Q S c (fuel + 1) listed a w := by
  obtain ⟨oc, hoc, hci⟩ := waits_spec hw
  exact wpAnyZ_first hi (Region.noSelect_spec hs) hQ hoc hci fuel listed a w (Region.free_spec hi hf) (by simpa using hr) (.inl ⟨hg, hv⟩) hS h
theorem za_k (hi : ops[i]? = some oi) (hs : Region.noSelect ops = true) (hf : Region.free md ops listed i = true) (hr : (Region.ready md ops listed).contains i = true) (hw : waits md ops c i = true)
    (hQ : ∀ v c a w, Q (.panic c) (a.put oi.dst v) w → Q (.panic c) a w) (hS : S w) (hg : Region.wanted oi (yielded ops a.tmps) = true)
    (h : ∀ K : Act → Prop, (∀ a', wpAnyZ P md ops Q S c fuel (listed.setIfInBounds i true) a' w → K a') → ∃ v, (∀ w, (execOp a.eval oi).run P w = .ok (.value v) w) ∧ K (a.put oi.dst v)) : wpAnyZ P md ops Q S c (fuel + 1) listed a w := by
  obtain ⟨v, hv, hk⟩ := h _ (fun _ h => h)
  exact za_val hi hs hf hr hw (hQ v) hS hg (fun w _ => hv w) hk
theorem wpAnyZ_one (hr : Region.ready md ops listed = [i]) (h : wpOp P ops Q i (fun a' w' => (i ≠ c → S w') ∧ wpAnyZ P md ops Q S c fuel (listed.setIfInBounds i true) a' w') a w) : wpAnyZ P md ops Q S c (fuel + 1) listed a w :=
  ⟨fun h0 => (by rw [hr] at h0; cases h0), fun j hj => by
    rw [hr] at hj
    rcases List.mem_cons.1 hj with rfl | hj
    · exact h
    · cases hj⟩
theorem za_do {v : Value} {w2 : World} (hr : Region.ready md ops listed = [i]) (ho : ops[i]? = some oi) (hg : Region.wanted oi (yielded ops a.tmps) = true) (hx : (execOp a.eval oi).run P w = .ok (.value v) w2) (hS : i ≠ c → S w2)
    (h : wpAnyZ P md ops Q S c fuel (listed.setIfInBounds i true) (a.put oi.dst v) w2) : wpAnyZ P md ops Q S c (fuel + 1) listed a w := by
  refine wpAnyZ_one hr ?_
  unfold wpOp
  simp only [ho]
  rw [if_pos hg]
  refine .inl ?_
  unfold Oper.wp
  rw [hx]
  exact ⟨hS, h⟩
/-- The only one that may come up reckons. -/
theorem za_1 (hr : Region.ready md ops listed = [i]) (ho : ops[i]? = some oi) (hg : Region.wanted oi (yielded ops a.tmps) = true) (hS : S w)
    (h : ∀ K : Act → Prop, (∀ a', wpAnyZ P md ops Q S c fuel (listed.setIfInBounds i true) a' w → K a') → ∃ v, (∀ w, (execOp a.eval oi).run P w = .ok (.value v) w) ∧ K (a.put oi.dst v)) : wpAnyZ P md ops Q S c (fuel + 1) listed a w := by
  obtain ⟨v, hv, hk⟩ := h _ (fun _ h => h)
  exact za_do hr ho hg (hv w) (fun _ => hS) hk
theorem za_call (hr : Region.ready md ops listed = [i]) (ho : ops[i]? = some oi) (hg : Region.wanted oi (yielded ops a.tmps) = true)
    (h : ∀ K : FuncId → Array Value → Prop, (∀ f args, (∃ F, Calls P f args w F ∧ ∀ e w', F e w' → ∃ v, e = .returned v ∧ (i ≠ c → S w') ∧ wpAnyZ P md ops Q S c fuel (listed.setIfInBounds i true) (a.put oi.dst v) w') → K f args) → ∃ f args, (∀ w, (execOp a.eval oi).run P w = .ok (.enter f args) w) ∧ K f args) :
    wpAnyZ P md ops Q S c (fuel + 1) listed a w := by
  obtain ⟨f, args, hv, F, hc, hk⟩ := h _ (fun _ _ h => h)
  refine wpAnyZ_one hr ?_
  unfold wpOp
  simp only [ho]
  rw [if_pos hg]
  refine .inl ?_
  unfold Oper.wp
  rw [hv w]
  simp only [Oper.upon]
  refine hc.mono fun e w' hF => ?_
  obtain ⟨v, rfl, hSv, hw⟩ := hk e w' hF
  exact ⟨hSv, hw⟩
theorem za_done (hr : Region.ready md ops listed = []) (h : Q .normal a w) : ∀ fuel, wpAnyZ P md ops Q S c fuel listed a w
  | 0 => ⟨hr, h⟩
  | _ + 1 => ⟨fun _ => h, by rw [hr]; simp⟩
theorem wp_region_Z {id : Nat} (c : Nat) (hm : P.follows .mixedOrders = true) (hS : S w.drew)
    (h : S w.drew → wpAnyZ P .any ops Q S c ops.size (Array.replicate ops.size false) a w.drew) : (Code.region id ops true).wp P Q a w :=
  wp_region_any hm (wpAny_of_Z _ _ _ _ (h hS))
end
end Go.Proofs.Ytpamocglecangaa.Nm
namespace Go.Proofs.Ytpamocglecangaa
open Go.RowKit Go.Proofs.Ytpamocglecangaa.Nm
section
variable {md : Region.Mode} {ops : Array Oper} {Q : Exit → Act → World → Prop} {S : World → Prop} {c fuel : Nat} {listed : Array Bool} {a : Act} {w : World} {i : Nat} {oi : Oper}
theorem za_storeC (hr : Region.ready md ops listed = [i]) (ho : ops[i]? = some oi) (hg : Region.wanted oi (yielded ops a.tmps) = true) (ty : TypeId) (x y : Operand) (hop : oi.op = .store ty x y) (b o : Nat) (v : Value)
    (hx : a.eval x = .pointer (some ⟨b, o, none⟩)) (hy : a.eval y = v) (hi : (Try.prog.info? ty).map (·.size) = some 1) (h1 : v.oneCell' = true) (hc : (w.cell? ⟨b, o, none⟩).isSome = true) (hf : w.frozen? ⟨b, o, none⟩ = false) (hS : i ≠ c → S (w.setCell ⟨b, o, none⟩ v))
    (h : wpAnyZ Try.prog md ops Q S c fuel (listed.setIfInBounds i true) (a.put oi.dst undef) (w.setCell ⟨b, o, none⟩ v)) : wpAnyZ Try.prog md ops Q S c (fuel + 1) listed a w := by
  refine wpAnyZ_one hr ?_
  unfold wpOp
  simp only [ho]
  rw [if_pos hg]
  exact .inl (wp_storeC ty x y hop b o v hx hy hi h1 hc hf ⟨hS, h⟩)
theorem za_pushL {ty sty : TypeId} {sz by0 : Nat} {A : Option Addr} {cc : Nat} {rows : List (Array Value)} {z : Array Value} (he : Elt sty ty sz by0 z) (hr : Region.ready md ops listed = [i]) (ho : ops[i]? = some oi) (hg : Region.wanted oi (yielded ops a.tmps) = true) (s x : Operand) (hop : oi.op = .call { callee := .builtin .append, args := #[s, x], argTypes := #[sty, sty] }) {row : Array Value} {q : Nat} {tq : TypeId} {fr : Nat × Nat}
    (hs : a.eval s = .slice A rows.length cc) (hx : a.eval x = .slice (some ⟨q, 0, none⟩) 1 1) (h : OwnL w ty sz A cc rows) (hq : w.heap[q]? = some (.cells row tq fr)) (hsz : row.size = sz) (h1 : row.all (·.oneCell') = true) (hlen : (rows.length + 1) * by0 ≤ 140737488355328) (hm : rows.length + 1 ≤ maxLen)
    (hS : ∀ w', Keep (fun b => A = some ⟨b, 0, none⟩) w w' → S w')
    (hK : ∀ A' c' w', OwnL w' ty sz A' c' (rows ++ [row]) → Keep (fun b => A = some ⟨b, 0, none⟩) w w' → (A' = A ∨ ∃ g, A' = some ⟨g, 0, none⟩ ∧ w.heap.size ≤ g) → S w' → wpAnyZ Try.prog md ops Q S c fuel (listed.setIfInBounds i true) (a.put oi.dst (.slice A' (rows.length + 1) c')) w') : wpAnyZ Try.prog md ops Q S c (fuel + 1) listed a w := by
  obtain ⟨A', c', w', hx2, h2, h3, h4⟩ := run_pushL he oi.type h hq hsz h1 hlen hm
  refine za_do hr ho hg (w2 := w') (v := .slice A' (rows.length + 1) c') ?_ (fun _ => hS w' h3) (hK A' c' w' h2 h3 h4 (hS w' h3))
  unfold execOp
  simp only [hop, resolve, invoke, builtin, Sem.run_bind, Sem.run_pure, Result.andThen_ok, List.map_toArray, List.map_cons, List.map_nil, hs, hx, hx2]
theorem za_new {cs : Array Value} {ty : TypeId} {v : Nat → Value} (hr : Region.ready md ops listed = [i]) (ho : ops[i]? = some oi) (hg : Region.wanted oi (yielded ops a.tmps) = true) (hx : (execOp a.eval oi).run Try.prog w = .ok (.value (v w.heap.size)) (w.alloc (.cells cs ty))) (hS : ∀ W, Below w.heap.size w W → S W)
    (h : ∀ W p, Below w.heap.size w W → w.heap.size ≤ p → W.heap[p]? = some (.cells cs ty (0, 0)) → S W → wpAnyZ Try.prog md ops Q S c fuel (listed.setIfInBounds i true) (a.put oi.dst (v p)) W) : wpAnyZ Try.prog md ops Q S c (fuel + 1) listed a w :=
  have hb := (Below.refl _ w).alloc (Nat.le_refl _) (.cells cs ty)
  za_do hr ho hg hx (fun _ => hS _ hb) (h _ _ hb (Nat.le_refl _) (ha_new rfl) (hS _ hb))
end
end Go.Proofs.Ytpamocglecangaa
namespace Go.Proofs.Ytpamocglecangaa
open Go.RowKit Go.Proofs.Ytpamocglecangaa.Nm
theorem built41 (a0 a1 a2 a3 : Value) (A : Option Addr) (l c : Nat) : Try.prog.built 41 [(0, .agg #[a0, a1, a2, a3]), (1, .int .i64 1), (2, .int .i64 1), (4, .slice A l c)] = some (cell8 #[a0, a1, a2, a3] 1 1 0 A l c) := by kernel_rfl
theorem ex_build41 {ev : Operand → Value} {o : Oper} {w : World} (x c1 c2 y : Operand) (ho : o.op = .build 41 #[(0, x), (1, c1), (2, c2), (4, y)]) {tr : Array Value} {A : Option Addr} {l c : Nat} (ht : tr.size = 4) (hx : ev x = .agg tr) (h1 : ev c1 = .int .i64 1) (h2 : ev c2 = .int .i64 1) (hy : ev y = .slice A l c) :
    (execOp ev o).run Try.prog w = .ok (.value (.agg (cell8 tr 1 1 0 A l c))) w := by
  obtain ⟨l0⟩ := tr
  match l0, ht with
  | [a0, a1, a2, a3], _ => exact ex_build 41 _ ho (by simp only [List.map_cons, List.map_nil, hx, h1, h2, hy]) (built41 a0 a1 a2 a3 A l c)
/-- A value of kind and number, of kind, number and type. -/
def nrow (k n : Int) : Array Value := cell9 k n ⟨#[]⟩ (cell4 0 ⟨#[]⟩ 0 none 0 0) none 0 0 none 0 0
theorem built35n (k n : Int) : Try.prog.built 35 [(0, .int .i64 k), (1, .int .i64 n)] = some (nrow k n) := by kernel_rfl
theorem ex_build35n {ev : Operand → Value} {o : Oper} {w : World} (x y : Operand) (ho : o.op = .build 35 #[(0, x), (1, y)]) {k n : Int} (hx : ev x = .int .i64 k) (hy : ev y = .int .i64 n) :
    (execOp ev o).run Try.prog w = .ok (.value (.agg (nrow k n))) w := ex_build 35 _ ho (by simp only [List.map_cons, List.map_nil, hx, hy]) (built35n k n)
theorem built35t (k n : Int) (a0 a1 a2 a3 : Value) : Try.prog.built 35 [(0, .int .i64 k), (1, .int .i64 n), (3, .agg #[a0, a1, a2, a3])] = some (cell9 k n ⟨#[]⟩ #[a0, a1, a2, a3] none 0 0 none 0 0) := by kernel_rfl
theorem ex_build35t {ev : Operand → Value} {o : Oper} {w : World} (x y z : Operand) (ho : o.op = .build 35 #[(0, x), (1, y), (3, z)]) {k n : Int} {tr : Array Value} (ht : tr.size = 4) (hx : ev x = .int .i64 k) (hy : ev y = .int .i64 n) (hz : ev z = .agg tr) :
    (execOp ev o).run Try.prog w = .ok (.value (.agg (cell9 k n ⟨#[]⟩ tr none 0 0 none 0 0))) w := by
  obtain ⟨l0⟩ := tr
  match l0, ht with
  | [a0, a1, a2, a3], _ => exact ex_build 35 _ ho (by simp only [List.map_cons, List.map_nil, hx, hy, hz]) (built35t k n a0 a1 a2 a3)
theorem nrow_at (w : World) (D : Nat → Prop) {k n : Int} (hk : (Lit.int .i64 k).wf = true) (hn : (Lit.int .i64 n).wf = true) : VAt w D (.node k n ⟨#[]⟩ zeroTy [] []) (nrow k n) := VAt.of hk hn (Nat.zero_le _) (zero_ty w D) (TysAt.nil w D) (VsAt.nil w D)
theorem trow_at {w : World} {D : Nat → Prop} {k n : Int} {t : Ty} {tr : Array Value} (hk : (Lit.int .i64 k).wf = true) (hn : (Lit.int .i64 n).wf = true) (ht : TyAt w D t tr) : VAt w D (.node k n ⟨#[]⟩ t [] []) (cell9 k n ⟨#[]⟩ tr none 0 0 none 0 0) := VAt.of hk hn (Nat.zero_le _) ht (TysAt.nil w D) (VsAt.nil w D)
theorem run_bs41' (a0 a1 a2 a3 a4 a5 a6 a7 : Value) (w : World) : (Instr.buildSlice 38 1 #[(0, .agg #[a0, a1, a2, a3, a4, a5, a6, a7])]).run Try.prog w = .ok (.slice (some ⟨w.heap.size, 0, none⟩) 1 1) (w.alloc (.cells #[a0, a1, a2, a3, a4, a5, a6, a7] 41)) := by kernel_rfl
theorem ex_bs38 {ev : Operand → Value} {o : Oper} {w : World} (x : Operand) (ho : o.op = .buildSlice 38 1 #[(0, x)]) {row : Array Value} (hx : ev x = .agg row) (h : row.size = 8) :
    (execOp ev o).run Try.prog w = .ok (.value (.slice (some ⟨w.heap.size, 0, none⟩) 1 1)) (w.alloc (.cells row 41)) := by
  obtain ⟨l⟩ := row
  match l, h with
  | [a0, a1, a2, a3, a4, a5, a6, a7], _ =>
    unfold execOp
    have := run_bs41' a0 a1 a2 a3 a4 a5 a6 a7 w
    simp [ho, hx, this, Result.andThen]
theorem info38 : (Try.prog.info? 38).map (·.size) = some 1 := by kernel_rfl
theorem info85 : (Try.prog.info? 85).map (·.size) = some 1 := by kernel_rfl
/-- A new block gets its role. -/
def own (G : Gh) (A : Option Addr) (x : Nat × Role) : Gh := fun b => if A = some ⟨b, 0, none⟩ then some x else G b
theorem own_role (G : Gh) (A : Option Addr) (x : Nat × Role) : RoleOf (own G A x) A x := fun g e => if_pos e
section
variable {w w' : World} {G G' : Gh} {k p : Nat} {h : Hp} {oA : Option Addr} {oc : Nat} {bA : Option Addr} {bc m : Nat} {lA : Option Addr} {lc : Nat}
theorem own_old {A : Option Addr} {x : Nat × Role} {n : Nat} (hA : ∀ g, A = some ⟨g, 0, none⟩ → n ≤ g) : ∀ b, b < n → own G A x b = G b := fun b hb => if_neg (fun e => by have := hA b e; omega)
theorem Done.owned (hh : HeapAt w G k p h) (hf : Fr w G) (hb : Below w.heap.size w w') {A : Option Addr} {r : Role} (hA : ∀ g, A = some ⟨g, 0, none⟩ → w.heap.size ≤ g ∧ g < w'.heap.size) : Done w G k p h w' (own G A (k, r)) where
  heap := by
    obtain ⟨oA, oc, bA, bc, m, lA, lc, hh⟩ := hh
    exact ⟨_, _, _, _, _, _, _, (hh.regh (own_old fun g e => (hA g e).1)).old hb⟩
  fr := fun b hb2 => by
    unfold own
    rw [if_neg (fun e => by have := (hA b e).2; omega)]
    exact hf b (by have := hb.size; omega)
  old := own_old fun g e => (hA g e).1
  new := fun b hb2 => by
    unfold own
    split
    · exact .inr ⟨_, rfl⟩
    · exact .inl (hf b hb2)
  keep := Keep.of hb
/-- The header's cell 0, 1 or 3 set anew. -/
theorem hdr_set {j : Nat} {v : Value} {ol bl ll : Nat} (hp : w.heap[p]? = some (.cells (cellH oA ol oc bA bl bc m lA ll lc) 87 (0, 0))) : (j < 4 → (w.cell? ⟨p, j, none⟩).isSome = true) ∧ w.frozen? ⟨p, j, none⟩ = false ∧ (w.setCell ⟨p, j, none⟩ v).heap[p]? = some (.cells ((cellH oA ol oc bA bl bc m lA ll lc).setIfInBounds j v) 87 (0, 0)) := by
  refine ⟨fun hj => ?_, by unfold World.frozen?; rw [hp]; rfl, hs_new hp⟩
  rw [cell_of_row _ _ _ _ _ _ hp]
  match j, hj with
  | 0, _ => rfl
  | 1, _ => rfl
  | 2, _ => rfl
  | 3, _ => rfl
/-- An object more. -/
theorem HAt.addO (hh : HAt w G k p h oA oc bA bc m lA lc) {rows : List (Array Value)} {row tr : Array Value} {o : Ob} {fA : Option Addr} {fc : Nat} {A' : Option Addr} {c' : Nat}
    (hl : rows.length = h.obs.length) (hv : ∀ (i : Nat) (o : Ob) (row : Array Value), h.obs[i]? = some o → rows[i]? = some row → ∃ tr fA fc, ObAt w G k i o row tr fA fc)
    (ho : OwnL w' 41 8 A' c' (rows ++ [row])) (hk : Keep (fun b => oA = some ⟨b, 0, none⟩) w w') (hor : RoleOf G oA (k, .arr)) (hG : ∀ b, b < w.heap.size → G' b = G b) (hA : RoleOf G' A' (k, .arr)) (hx : ObAt w' G' k h.obs.length o row tr fA fc) :
    HAt (w'.setCell ⟨p, 0, none⟩ (.slice A' (rows.length + 1) c')) G' k p { h with obs := h.obs ++ [o] } A' c' bA bc m lA lc := by
  have hpl := heap_lt hh.blk
  have hne : ∀ b r, b < w.heap.size → G b = some (k, r) → r ≠ .arr → w'.heap[b]? = w.heap[b]? := fun b r hb e hr => hk.block b hb fun e2 => by have := hor b e2; rw [e] at this; cases this; exact hr rfl
  have hno : ∀ b, b < w.heap.size → G b = none → w'.heap[b]? = w.heap[b]? := fun b hb e => hk.block b hb fun e2 => by have := hor b e2; rw [e] at this; cases this
  have hpn : G' p = some (k, .hdr) := (hG p hpl).trans hh.rp
  have hp7 : w'.heap[p]? = some (.cells (cellH oA h.obs.length oc bA h.bus.length bc m lA h.lev.length lc) 87 (0, 0)) := (hne p _ hpl hh.rp (by simp)).trans hh.blk
  have hset := (hdr_set (j := 0) (v := .slice A' (rows.length + 1) c') hp7).2.2
  have hso : ∀ b, b ≠ p → (w'.setCell ⟨p, 0, none⟩ (.slice A' (rows.length + 1) c')).heap[b]? = w'.heap[b]? := fun b hb => heap_setCell_other _ _ _ _ hb
  have hsr : ∀ b r, G' b = some (k, r) → r ≠ .hdr → b ≠ p := fun b r e hr e2 => by rw [e2, hpn] at e; cases e; exact hr rfl
  have hsn : ∀ b, G' b = none → b ≠ p := fun b e e2 => by rw [e2, hpn] at e; cases e
  have hg := hh.regh hG
  have hh7 : HAt w G' k p h oA oc bA bc m lA lc := hg
  refine ⟨?_, hpn, hg.rm, ?_, ?_, ?_, ?_⟩
  · rw [hset, hl]
    show _ = some (Obj.cells (cellH A' (h.obs ++ [o]).length c' bA h.bus.length bc m lA h.lev.length lc) 87 (0, 0))
    rw [List.length_append]; rfl
  · refine ⟨rows ++ [row], ho.same (fun g e _ => hso g (hsr g _ (hA g e) (by simp))), by simp [hl], hA, fun i x rw0 hi hri => ?_⟩
    rcases Nat.lt_trichotomy i h.obs.length with e | e | e
    · rw [List.getElem?_append_left (by omega)] at hi hri
      obtain ⟨tr, fA, fc, h3⟩ := hv i x rw0 hi hri
      have h4 : ObAt w G' k i x rw0 tr fA fc := ⟨h3.eq, h3.ty.regh hG, h3.fld.regh hG⟩
      refine ⟨tr, fA, fc, h4.same (fun b hb e2 => ?_) (fun b hb e2 => ?_)⟩
      · rw [hso b (hsr b _ e2 (by simp))]; exact hne b _ hb ((hG b hb).symm.trans e2) (by simp)
      · rw [hso b (hsn b e2)]; exact hno b hb ((hG b hb).symm.trans e2)
    · rw [e, List.getElem?_concat_length] at hi
      rw [e, ← hl, List.getElem?_concat_length] at hri
      cases hi; cases hri
      subst e
      exact ⟨tr, fA, fc, hx.same (fun b _ e2 => hso b (hsr b _ e2 (by simp))) (fun b _ e2 => hso b (hsn b e2))⟩
    · rw [List.getElem?_eq_none (by simp; omega)] at hi; cases hi
  · exact hg.bus.same (fun b hb e => by
      rcases e with e | ⟨i, e⟩ <;> (rw [hso b (hsr b _ e (by simp))]; exact hne b _ hb ((hG b hb).symm.trans e) (by simp))) fun b hb e => by
        rw [hso b (hsn b e)]; exact hno b hb ((hG b hb).symm.trans e)
  · exact hg.lev.same (fun b hb e => by
      rcases e with e | ⟨i, e⟩ <;> (rw [hso b (hsr b _ e (by simp))]; exact hne b _ hb ((hG b hb).symm.trans e) (by simp))) fun b hb e => by
        rw [hso b (hsn b e)]; exact hno b hb ((hG b hb).symm.trans e)
  · exact hg.map.same fun hb => by rw [hso m (hsr m _ hg.rm (by simp))]; exact hne m _ hb hh.rm (by simp)
/-- A buffer more. -/
theorem HAt.addB (hh : HAt w G k p h oA oc bA bc m lA lc) {rows : List (Array Value)} {row : Array Value} {o : Bu} {eA : Option Addr} {ec : Nat} {A' : Option Addr} {c' : Nat}
    (hl : rows.length = h.bus.length) (hv : ∀ (i : Nat) (o : Bu) (row : Array Value), h.bus[i]? = some o → rows[i]? = some row → ∃ eA ec, BuAt w G k i o row eA ec)
    (ho : OwnL w' 97 2 A' c' (rows ++ [row])) (hk : Keep (fun b => bA = some ⟨b, 0, none⟩) w w') (hor : RoleOf G bA (k, .bar)) (hG : ∀ b, b < w.heap.size → G' b = G b) (hA : RoleOf G' A' (k, .bar)) (hx : BuAt w' G' k h.bus.length o row eA ec) :
    HAt (w'.setCell ⟨p, 1, none⟩ (.slice A' (rows.length + 1) c')) G' k p { h with bus := h.bus ++ [o] } oA oc A' c' m lA lc := by
  have hpl := heap_lt hh.blk
  have hne : ∀ b r, b < w.heap.size → G b = some (k, r) → r ≠ .bar → w'.heap[b]? = w.heap[b]? := fun b r hb e hr => hk.block b hb fun e2 => by have := hor b e2; rw [e] at this; cases this; exact hr rfl
  have hno : ∀ b, b < w.heap.size → G b = none → w'.heap[b]? = w.heap[b]? := fun b hb e => hk.block b hb fun e2 => by have := hor b e2; rw [e] at this; cases this
  have hpn : G' p = some (k, .hdr) := (hG p hpl).trans hh.rp
  have hp7 : w'.heap[p]? = some (.cells (cellH oA h.obs.length oc bA h.bus.length bc m lA h.lev.length lc) 87 (0, 0)) := (hne p _ hpl hh.rp (by simp)).trans hh.blk
  have hset := (hdr_set (j := 1) (v := .slice A' (rows.length + 1) c') hp7).2.2
  have hso : ∀ b, b ≠ p → (w'.setCell ⟨p, 1, none⟩ (.slice A' (rows.length + 1) c')).heap[b]? = w'.heap[b]? := fun b hb => heap_setCell_other _ _ _ _ hb
  have hsr : ∀ b r, G' b = some (k, r) → r ≠ .hdr → b ≠ p := fun b r e hr e2 => by rw [e2, hpn] at e; cases e; exact hr rfl
  have hsn : ∀ b, G' b = none → b ≠ p := fun b e e2 => by rw [e2, hpn] at e; cases e
  have hg := hh.regh hG
  refine ⟨?_, hpn, hg.rm, ?_, ?_, ?_, ?_⟩
  · rw [hset, hl]
    show _ = some (Obj.cells (cellH oA h.obs.length oc A' (h.bus ++ [o]).length c' m lA h.lev.length lc) 87 (0, 0))
    rw [List.length_append]; rfl
  · exact hg.obs.same (fun b hb e => by
      rcases e with e | ⟨i, e⟩ <;> (rw [hso b (hsr b _ e (by simp))]; exact hne b _ hb ((hG b hb).symm.trans e) (by simp))) fun b hb e => by
        rw [hso b (hsn b e)]; exact hno b hb ((hG b hb).symm.trans e)
  · refine ⟨rows ++ [row], ho.same (fun g e _ => hso g (hsr g _ (hA g e) (by simp))), by simp [hl], hA, fun i x rw0 hi hri => ?_⟩
    rcases Nat.lt_trichotomy i h.bus.length with e | e | e
    · rw [List.getElem?_append_left (by omega)] at hi hri
      obtain ⟨fA, fc, h3⟩ := hv i x rw0 hi hri
      have h4 : BuAt w G' k i x rw0 fA fc := ⟨h3.eq, h3.elm.regh hG⟩
      refine ⟨fA, fc, h4.same (fun b hb e2 => ?_) (fun b hb e2 => ?_)⟩
      · rw [hso b (hsr b _ e2 (by simp))]; exact hne b _ hb ((hG b hb).symm.trans e2) (by simp)
      · rw [hso b (hsn b e2)]; exact hno b hb ((hG b hb).symm.trans e2)
    · rw [e, List.getElem?_concat_length] at hi
      rw [e, ← hl, List.getElem?_concat_length] at hri
      cases hi; cases hri
      subst e
      exact ⟨eA, ec, hx.same (fun b _ e2 => hso b (hsr b _ e2 (by simp))) (fun b _ e2 => hso b (hsn b e2))⟩
    · rw [List.getElem?_eq_none (by simp; omega)] at hi; cases hi
  · exact hg.lev.same (fun b hb e => by
      rcases e with e | ⟨i, e⟩ <;> (rw [hso b (hsr b _ e (by simp))]; exact hne b _ hb ((hG b hb).symm.trans e) (by simp))) fun b hb e => by
        rw [hso b (hsn b e)]; exact hno b hb ((hG b hb).symm.trans e)
  · exact hg.map.same fun hb => by rw [hso m (hsr m _ hg.rm (by simp))]; exact hne m _ hb hh.rm (by simp)
/-- A level more. -/
theorem HAt.addL (hh : HAt w G k p h oA oc bA bc m lA lc) {rows : List (Array Value)} {ts : List Tk} {tA : Option Addr} {tc : Nat} {A' : Option Addr} {c' : Nat}
    (hl : rows.length = h.lev.length) (hv : ∀ (i : Nat) (ts : List Tk) (row : Array Value), h.lev[i]? = some ts → rows[i]? = some row → ∃ tA tc, row = #[.slice tA ts.length tc] ∧ TksAt w G (k, .lvl i) ts tA tc)
    (ho : OwnL w' 98 1 A' c' (rows ++ [#[.slice tA ts.length tc]])) (hk : Keep (fun b => lA = some ⟨b, 0, none⟩) w w') (hor : RoleOf G lA (k, .lar)) (hG : ∀ b, b < w.heap.size → G' b = G b) (hA : RoleOf G' A' (k, .lar)) (hx : TksAt w' G' (k, .lvl h.lev.length) ts tA tc) :
    HAt (w'.setCell ⟨p, 3, none⟩ (.slice A' (rows.length + 1) c')) G' k p { h with lev := h.lev ++ [ts] } oA oc bA bc m A' c' := by
  have hpl := heap_lt hh.blk
  have hne : ∀ b r, b < w.heap.size → G b = some (k, r) → r ≠ .lar → w'.heap[b]? = w.heap[b]? := fun b r hb e hr => hk.block b hb fun e2 => by have := hor b e2; rw [e] at this; cases this; exact hr rfl
  have hno : ∀ b, b < w.heap.size → G b = none → w'.heap[b]? = w.heap[b]? := fun b hb e => hk.block b hb fun e2 => by have := hor b e2; rw [e] at this; cases this
  have hpn : G' p = some (k, .hdr) := (hG p hpl).trans hh.rp
  have hp7 : w'.heap[p]? = some (.cells (cellH oA h.obs.length oc bA h.bus.length bc m lA h.lev.length lc) 87 (0, 0)) := (hne p _ hpl hh.rp (by simp)).trans hh.blk
  have hset := (hdr_set (j := 3) (v := .slice A' (rows.length + 1) c') hp7).2.2
  have hso : ∀ b, b ≠ p → (w'.setCell ⟨p, 3, none⟩ (.slice A' (rows.length + 1) c')).heap[b]? = w'.heap[b]? := fun b hb => heap_setCell_other _ _ _ _ hb
  have hsr : ∀ b r, G' b = some (k, r) → r ≠ .hdr → b ≠ p := fun b r e hr e2 => by rw [e2, hpn] at e; cases e; exact hr rfl
  have hsn : ∀ b, G' b = none → b ≠ p := fun b e e2 => by rw [e2, hpn] at e; cases e
  have hg := hh.regh hG
  refine ⟨?_, hpn, hg.rm, ?_, ?_, ?_, ?_⟩
  · rw [hset, hl]
    show _ = some (Obj.cells (cellH oA h.obs.length oc bA h.bus.length bc m A' (h.lev ++ [ts]).length c') 87 (0, 0))
    rw [List.length_append]; rfl
  · exact hg.obs.same (fun b hb e => by
      rcases e with e | ⟨i, e⟩ <;> (rw [hso b (hsr b _ e (by simp))]; exact hne b _ hb ((hG b hb).symm.trans e) (by simp))) fun b hb e => by
        rw [hso b (hsn b e)]; exact hno b hb ((hG b hb).symm.trans e)
  · exact hg.bus.same (fun b hb e => by
      rcases e with e | ⟨i, e⟩ <;> (rw [hso b (hsr b _ e (by simp))]; exact hne b _ hb ((hG b hb).symm.trans e) (by simp))) fun b hb e => by
        rw [hso b (hsn b e)]; exact hno b hb ((hG b hb).symm.trans e)
  · refine ⟨rows ++ [#[.slice tA ts.length tc]], ho.same (fun g e _ => hso g (hsr g _ (hA g e) (by simp))), by simp [hl], hA, fun i x rw0 hi hri => ?_⟩
    rcases Nat.lt_trichotomy i h.lev.length with e | e | e
    · rw [List.getElem?_append_left (by omega)] at hi hri
      obtain ⟨tA, tc, h3, rows2, ho2, hl2, hr2, hv2⟩ := hv i x rw0 hi hri
      have h4 : TksAt w G' (k, .lvl i) x tA tc := ⟨rows2, ho2, hl2, hr2.regh ho2 hG, fun j t row h5 h6 => (hv2 j t row h5 h6).regh hG⟩
      refine ⟨tA, tc, h3, h4.same (fun b hb e2 => ?_) (fun b hb e2 => ?_)⟩
      · rw [hso b (hsr b _ e2 (by simp))]; exact hne b _ hb ((hG b hb).symm.trans e2) (by simp)
      · rw [hso b (hsn b e2)]; exact hno b hb ((hG b hb).symm.trans e2)
    · rw [e, List.getElem?_concat_length] at hi
      rw [e, ← hl, List.getElem?_concat_length] at hri
      cases hi; cases hri
      subst e
      exact ⟨tA, tc, rfl, hx.same (fun b _ e2 => hso b (hsr b _ e2 (by simp))) (fun b _ e2 => hso b (hsn b e2))⟩
    · rw [List.getElem?_eq_none (by simp; omega)] at hi; cases hi
  · exact hg.map.same fun hb => by rw [hso m (hsr m _ hg.rm (by simp))]; exact hne m _ hb hh.rm (by simp)
end
end Go.Proofs.Ytpamocglecangaa
