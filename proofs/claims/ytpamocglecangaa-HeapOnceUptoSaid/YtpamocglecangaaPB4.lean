/- Objects and buffers of a heap, read and changed cell by cell. The program's dead: ContainsFunc of a method value. The program's count: a value counted in or out. Levels, array, place, alone. The program's alone: the error of changing a buffer. Steps that append to rows of one's own, make them, and build their elements. The program's taken: copies of values. -/
import Derived.Test.YtpamocglecangaaPB2
import Derived.Test.YtpamocglecangaaPB3
import Derived.Laws.MakeOwn
import Derived.Test.YtpamocglecangaaPB1
namespace Go.Proofs.Ytpamocglecangaa
open Go.RowKit Go.Proofs.Ytpamocglecangaa.Nm
/-- What loads see of an object, of a buffer. -/
structure ObL (w : World) (g i : Nat) (o : Ob) (tr : Array Value) (fA : Option Addr) (fc : Nat) : Prop where
  t : RowAt w 32 ⟨g, i * 8, none⟩ tr
  n : OneAt w 9 ⟨g, i * 8 + 1, none⟩ (.string o.t.name)
  s : OneAt w 3 ⟨g, i * 8 + 4, none⟩ (.int .i64 o.state)
  c : OneAt w 3 ⟨g, i * 8 + 5, none⟩ (.int .i64 o.count)
  k : OneAt w 3 ⟨g, i * 8 + 6, none⟩ (.int .i64 o.weak)
  f : OneAt w 33 ⟨g, i * 8 + 7, none⟩ (.slice fA o.fields.length fc)
structure BuL (w : World) (g i : Nat) (b : Bu) (eA : Option Addr) (ec : Nat) : Prop where
  c : OneAt w 3 ⟨g, i * 2, none⟩ (.int .i64 b.count)
  e : OneAt w 33 ⟨g, i * 2 + 1, none⟩ (.slice eA b.elems.length ec)
section
variable {w w' : World} {G : Gh} {k : Nat} {obs : List Ob} {bus : List Bu} {A : Option Addr} {c i : Nat} {o : Ob} {b : Bu}
theorem cell8_at {tr : Array Value} (h : tr.size = 4) (s c k : Int) (A : Option Addr) (l m : Nat) : (cell8 tr s c k A l m).size = 8 ∧ (cell8 tr s c k A l m)[4]? = some (.int .i64 s) ∧ (cell8 tr s c k A l m)[5]? = some (.int .i64 c) ∧ (cell8 tr s c k A l m)[6]? = some (.int .i64 k) ∧ (cell8 tr s c k A l m)[7]? = some (.slice A l m) := by
  obtain ⟨l0⟩ := tr
  match l0, h with
  | [a0, a1, a2, a3], _ => exact ⟨rfl, rfl, rfl, rfl, rfl⟩
theorem cell8_set {tr : Array Value} (h : tr.size = 4) (s c k : Int) (A : Option Addr) (l m : Nat) (x : Int) (A' : Option Addr) (l' m' : Nat) : (cell8 tr s c k A l m).setIfInBounds 4 (.int .i64 x) = cell8 tr x c k A l m ∧ (cell8 tr s c k A l m).setIfInBounds 5 (.int .i64 x) = cell8 tr s x k A l m ∧ (cell8 tr s c k A l m).setIfInBounds 6 (.int .i64 x) = cell8 tr s c x A l m ∧ (cell8 tr s c k A l m).setIfInBounds 7 (.slice A' l' m') = cell8 tr s c k A' l' m' := by
  obtain ⟨l0⟩ := tr
  match l0, h with
  | [a0, a1, a2, a3], _ => exact ⟨rfl, rfl, rfl, rfl⟩
theorem cell8_ty {tr : Array Value} (h : tr.size = 4) (s c k : Int) (A : Option Addr) (l m : Nat) : (cell8 tr s c k A l m).extract 0 4 = tr := by
  obtain ⟨l0⟩ := tr
  match l0, h with
  | [a0, a1, a2, a3], _ => rfl
structure ObsR (w : World) (G : Gh) (k : Nat) (obs : List Ob) (g c : Nat) (rows : List (Array Value)) : Prop where
  own : OwnL w 41 8 (some ⟨g, 0, none⟩) c rows
  len : rows.length = obs.length
  role : G g = some (k, .arr)
  lt : g < w.heap.size
  all : ∀ (i : Nat) (o : Ob) (row : Array Value), obs[i]? = some o → rows[i]? = some row → ∃ tr fA fc, ObAt w G k i o row tr fA fc
theorem ObsAt.rows (h : ObsAt w G k obs A c) (hi : obs[i]? = some o) : ∃ g rows, A = some ⟨g, 0, none⟩ ∧ ObsR w G k obs g c rows := by
  obtain ⟨rows, ho, hl, hr, hv⟩ := h
  have h1 := (List.getElem?_eq_some_iff.1 hi).1
  obtain ⟨g, cur, e, hg, -⟩ := ho.addr (i := i) (by omega)
  subst e
  exact ⟨g, rows, rfl, ho, hl, hr g rfl, heap_lt hg, hv⟩
theorem ObsR.get {g : Nat} {rows : List (Array Value)} (h : ObsR w G k obs g c rows) (hi : obs[i]? = some o) : ∃ row tr fA fc, rows[i]? = some row ∧ ObAt w G k i o row tr fA fc := by
  have h1 := (List.getElem?_eq_some_iff.1 hi).1
  have hl := h.len
  have h2 : rows[i]? = some rows[i] := List.getElem?_eq_getElem (by omega)
  obtain ⟨tr, fA, fc, g1⟩ := h.all i o _ hi h2
  exact ⟨_, tr, fA, fc, h2, g1⟩
structure BusR (w : World) (G : Gh) (k : Nat) (bus : List Bu) (g c : Nat) (rows : List (Array Value)) : Prop where
  own : OwnL w 97 2 (some ⟨g, 0, none⟩) c rows
  len : rows.length = bus.length
  role : G g = some (k, .bar)
  lt : g < w.heap.size
  all : ∀ (i : Nat) (b : Bu) (row : Array Value), bus[i]? = some b → rows[i]? = some row → ∃ eA ec, BuAt w G k i b row eA ec
theorem BusAt.rows (h : BusAt w G k bus A c) (hi : bus[i]? = some b) : ∃ g rows, A = some ⟨g, 0, none⟩ ∧ BusR w G k bus g c rows := by
  obtain ⟨rows, ho, hl, hr, hv⟩ := h
  have h1 := (List.getElem?_eq_some_iff.1 hi).1
  obtain ⟨g, cur, e, hg, -⟩ := ho.addr (i := i) (by omega)
  subst e
  exact ⟨g, rows, rfl, ho, hl, hr g rfl, heap_lt hg, hv⟩
theorem BusR.get {g : Nat} {rows : List (Array Value)} (h : BusR w G k bus g c rows) (hi : bus[i]? = some b) : ∃ row eA ec, rows[i]? = some row ∧ BuAt w G k i b row eA ec := by
  have h1 := (List.getElem?_eq_some_iff.1 hi).1
  have hl := h.len
  have h2 : rows[i]? = some rows[i] := List.getElem?_eq_getElem (by omega)
  obtain ⟨eA, ec, g1⟩ := h.all i b _ hi h2
  exact ⟨_, eA, ec, h2, g1⟩
theorem ObAt.size {row tr : Array Value} {fA : Option Addr} {fc : Nat} (h : ObAt w G k i o row tr fA fc) : tr.size = 4 := h.ty.size
theorem OwnL.loads {rows : List (Array Value)} {row tr : Array Value} {fA : Option Addr} {fc g : Nat} (ho : OwnL w 41 8 (some ⟨g, 0, none⟩) c rows) (hr : rows[i]? = some row) (h : ObAt w G k i o row tr fA fc) : ObL w g i o tr fA fc := by
  obtain ⟨-, e4, e5, e6, e7⟩ := cell8_at h.size o.state o.count o.weak fA o.fields.length fc
  rw [← h.eq] at e4 e5 e6 e7
  obtain ⟨cur, hg, hs, hf, hx, hsz⟩ := ho.at hr
  have ht : cur.extract (i * 8) (i * 8 + 4) = tr := by
    have h1 := cell8_ty h.size o.state o.count o.weak fA o.fields.length fc
    rw [← h.eq, ← hx, Array.extract_extract] at h1
    rw [← h1]
    congr 1; omega
  obtain ⟨tk, ts, tn, tA, tl, tc, tt, e1, e2, -⟩ := h.ty.parts
  refine ⟨row_mid (n := 4) hg (by exact ht) u24 rfl h.size info24, one_of u9 rfl ?_, one_of u3 rfl (ho.cell hr e4), one_of u3 rfl (ho.cell hr e5), one_of u3 rfl (ho.cell hr e6), one_of u33 rfl (ho.cell hr e7)⟩
  refine ho.cell hr ?_
  rw [h.eq, e2, e1]
  rfl
theorem modify_eq {α : Type} {l : List α} {i : Nat} {x : α} (f : α → α) (h : l[i]? = some x) : l.modify i f = l.set i (f x) := by
  apply List.ext_getElem?
  intro j
  by_cases e : i = j
  · subst e
    simp [List.getElem?_modify, List.getElem?_set_self (List.getElem?_eq_some_iff.1 h).1, h]
  · simp [List.getElem?_modify, List.getElem?_set_ne e, e]
theorem ObAt.same {row tr : Array Value} {fA : Option Addr} {fc : Nat} (h : ObAt w G k i o row tr fA fc) (h1 : ∀ b, b < w.heap.size → G b = some (k, .fld i) → w'.heap[b]? = w.heap[b]?) (h2 : ∀ b, b < w.heap.size → G b = none → w'.heap[b]? = w.heap[b]?) : ObAt w' G k i o row tr fA fc :=
  ⟨h.eq, (h.ty.low.mono (fun _ h => h) fun b hb => h2 b hb.2 hb.1).weak (fun b hb => hb.1), h.fld.same h1 h2⟩
theorem BuAt.same {row : Array Value} {eA : Option Addr} {ec : Nat} (h : BuAt w G k i b row eA ec) (h1 : ∀ b, b < w.heap.size → G b = some (k, .elm i) → w'.heap[b]? = w.heap[b]?) (h2 : ∀ b, b < w.heap.size → G b = none → w'.heap[b]? = w.heap[b]?) : BuAt w' G k i b row eA ec :=
  ⟨h.eq, h.elm.same h1 h2⟩
theorem OwnL.loadsB {rows : List (Array Value)} {row : Array Value} {eA : Option Addr} {ec g : Nat} (ho : OwnL w 97 2 (some ⟨g, 0, none⟩) c rows) (hr : rows[i]? = some row) (h : BuAt w G k i b row eA ec) : BuL w g i b eA ec :=
  ⟨one_of u3 rfl (ho.cell hr (j := 0) (by rw [h.eq]; rfl)), one_of u33 rfl (ho.cell hr (j := 1) (by rw [h.eq]; rfl))⟩
theorem ObsR.loads {g : Nat} {rows : List (Array Value)} (h : ObsR w G k obs g c rows) (hi : obs[i]? = some o) : ∃ tr fA fc, (∀ w', Below w.heap.size w w' → ObL w' g i o tr fA fc) ∧ TyAt w (Imm G) o.t tr ∧ ListV w G (k, .fld i) o.fields fA fc := by
  obtain ⟨row, tr, fA, fc, hr, hx⟩ := h.get hi
  exact ⟨tr, fA, fc, fun w' hb => (h.own.old hb).loads hr (hx.same (fun b hl _ => hb.block b hl) fun b hl _ => hb.block b hl), hx.ty, hx.fld⟩
theorem BusR.loads {g : Nat} {rows : List (Array Value)} (h : BusR w G k bus g c rows) (hi : bus[i]? = some b) : ∃ eA ec, (∀ w', Below w.heap.size w w' → BuL w' g i b eA ec) ∧ ListV w G (k, .elm i) b.elems eA ec := by
  obtain ⟨row, eA, ec, hr, hx⟩ := h.get hi
  exact ⟨eA, ec, fun w' hb => (h.own.old hb).loadsB hr (hx.same (fun b hl _ => hb.block b hl) fun b hl _ => hb.block b hl), hx.elm⟩
theorem vnN {w0 : World} {D : Nat → Prop} {v : Va} {p n : Nat} {row tr : Array Value} {A2 : Option Addr} {l2 c2 : Nat} {A3 : Option Addr} {l3 c3 : Nat} {t : TypeId} {fr : Nat × Nat} (hp : w.heap[p]? = some (.cells row t fr)) (HR : Hid (VRow w0 D v row tr A2 l2 c2 A3 l3 c3)) (HN : Hid (v.num = (n : Int))) : OneAt w 3 ⟨p, 1, none⟩ (.int .i64 (n : Int)) := by
  rw [← HN.out]; exact vn hp HR
/-- An object whose row is set anew, whatever else of no concern changed. -/
theorem ObsR.upd {g : Nat} {rows : List (Array Value)} (h : ObsR w G k obs g c rows) (hi : obs[i]? = some o) {row' tr' : Array Value} {fA' : Option Addr} {fc' : Nat} {o' : Ob} (hw : ∀ (j : Nat) (b : Nat), j ≠ i → b < w.heap.size → G b = some (k, .fld j) → w'.heap[b]? = w.heap[b]?) (h2 : ∀ b, b < w.heap.size → G b = none → w'.heap[b]? = w.heap[b]?)
    (ho : OwnL w' 41 8 (some ⟨g, 0, none⟩) c (rows.set i row')) (h' : ObAt w' G k i o' row' tr' fA' fc') : ObsAt w' G k (obs.set i o') (some ⟨g, 0, none⟩) c := by
  have h1 := (List.getElem?_eq_some_iff.1 hi).1
  refine ⟨_, ho, by simp [h.len], fun g' e => by cases e; exact h.role, fun j x row hj hrj => ?_⟩
  by_cases e : i = j
  · subst e
    rw [List.getElem?_set_self h1] at hj
    rw [List.getElem?_set_self (by have := h.len; omega)] at hrj
    cases hj; cases hrj
    exact ⟨_, _, _, h'⟩
  · rw [List.getElem?_set_ne e] at hj hrj
    obtain ⟨tr, fA, fc, h3⟩ := h.all j x row hj hrj
    exact ⟨_, _, _, h3.same (fun b => hw j b fun e2 => e e2.symm) h2⟩
theorem BusR.upd {g : Nat} {rows : List (Array Value)} (h : BusR w G k bus g c rows) (hi : bus[i]? = some b) {row' : Array Value} {eA' : Option Addr} {ec' : Nat} {b' : Bu} (hw : ∀ (j : Nat) (b : Nat), j ≠ i → b < w.heap.size → G b = some (k, .elm j) → w'.heap[b]? = w.heap[b]?) (h2 : ∀ b, b < w.heap.size → G b = none → w'.heap[b]? = w.heap[b]?)
    (ho : OwnL w' 97 2 (some ⟨g, 0, none⟩) c (rows.set i row')) (h' : BuAt w' G k i b' row' eA' ec') : BusAt w' G k (bus.set i b') (some ⟨g, 0, none⟩) c := by
  have h1 := (List.getElem?_eq_some_iff.1 hi).1
  refine ⟨_, ho, by simp [h.len], fun g' e => by cases e; exact h.role, fun j x row hj hrj => ?_⟩
  by_cases e : i = j
  · subst e
    rw [List.getElem?_set_self h1] at hj
    rw [List.getElem?_set_self (by have := h.len; omega)] at hrj
    cases hj; cases hrj
    exact ⟨_, _, h'⟩
  · rw [List.getElem?_set_ne e] at hj hrj
    obtain ⟨eA, ec, h3⟩ := h.all j x row hj hrj
    exact ⟨_, _, h3.same (fun b => hw j b fun e2 => e e2.symm) h2⟩
theorem Keep.cellOne (w : World) (g j : Nat) (v : Value) : Keep (fun b => b = g) w (w.setCell ⟨g, j, none⟩ v) := ⟨rfl, rfl, rfl, by simp, fun b _ hn => heap_setCell_other _ _ _ _ hn⟩
/-- A number of an object set anew. -/
theorem ObsR.num {g : Nat} {rows : List (Array Value)} (h : ObsR w G k obs g c rows) (hi : obs[i]? = some o) {j : Nat} {x : Int} {o' : Ob} (ht : o'.t = o.t) (hf : o'.fields = o.fields)
    (hj : (j = 4 ∧ o'.state = x ∧ o'.count = o.count ∧ o'.weak = o.weak) ∨ (j = 5 ∧ o'.state = o.state ∧ o'.count = x ∧ o'.weak = o.weak) ∨ (j = 6 ∧ o'.state = o.state ∧ o'.count = o.count ∧ o'.weak = x)) :
    ObsAt (w.setCell ⟨g, i * 8 + j, none⟩ (.int .i64 x)) G k (obs.set i o') (some ⟨g, 0, none⟩) c := by
  obtain ⟨row, tr, fA, fc, hr, hx⟩ := h.get hi
  have hs1 := (Keep.cellOne w g (i * 8 + j) (.int .i64 x)).block
  have hc := cell8_set hx.size o.state o.count o.weak fA o.fields.length fc x none 0 0
  have hne : ∀ b r, G b = some (k, r) → r ≠ .arr → b ≠ g := fun b r e hr e2 => by rw [e2, h.role] at e; cases e; exact hr rfl
  have hno : ∀ b, G b = none → b ≠ g := fun b e e2 => by rw [e2, h.role] at e; cases e
  refine h.upd hi (fun j b _ hb e => hs1 b hb (hne b _ e (by simp))) (fun b hb e => hs1 b hb (hno b e)) (h.own.set hr (j := j) (by omega) _) (tr' := tr) (fA' := fA) (fc' := fc) ?_
  have h0 := hx.same (w' := w.setCell ⟨g, i * 8 + j, none⟩ (.int .i64 x)) (fun b hb e => hs1 b hb (hne b _ e (by simp))) (fun b hb e => hs1 b hb (hno b e))
  refine ⟨?_, by rw [ht]; exact h0.ty, by rw [hf]; exact h0.fld⟩
  rw [hx.eq, hf]
  rcases hj with ⟨rfl, e1, e2, e3⟩ | ⟨rfl, e1, e2, e3⟩ | ⟨rfl, e1, e2, e3⟩
  · rw [hc.1, e1, e2, e3]
  · rw [hc.2.1, e1, e2, e3]
  · rw [hc.2.2.1, e1, e2, e3]
theorem BusR.num {g : Nat} {rows : List (Array Value)} (h : BusR w G k bus g c rows) (hi : bus[i]? = some b) {x : Int} {b' : Bu} (hf : b'.elems = b.elems) (hc : b'.count = x) :
    BusAt (w.setCell ⟨g, i * 2, none⟩ (.int .i64 x)) G k (bus.set i b') (some ⟨g, 0, none⟩) c := by
  obtain ⟨row, eA, ec, hr, hx⟩ := h.get hi
  have hs1 := (Keep.cellOne w g (i * 2 + 0) (.int .i64 x)).block
  have hne : ∀ b r, G b = some (k, r) → r ≠ .bar → b ≠ g := fun b r e hr e2 => by rw [e2, h.role] at e; cases e; exact hr rfl
  have hno : ∀ b, G b = none → b ≠ g := fun b e e2 => by rw [e2, h.role] at e; cases e
  refine h.upd hi (fun j b _ hb e => hs1 b hb (hne b _ e (by simp))) (fun b hb e => hs1 b hb (hno b e)) (h.own.set hr (j := 0) (by omega) _) (eA' := eA) (ec' := ec) ?_
  have h0 := hx.same (w' := w.setCell ⟨g, i * 2 + 0, none⟩ (.int .i64 x)) (fun b hb e => hs1 b hb (hne b _ e (by simp))) (fun b hb e => hs1 b hb (hno b e))
  refine ⟨?_, by rw [hf]; exact h0.elm⟩
  rw [hx.eq, hf, hc]; rfl
end
section
variable {w w' : World} {G : Gh} {k p : Nat} {h : Hp} {oA : Option Addr} {oc : Nat} {bA : Option Addr} {bc m : Nat} {lA : Option Addr} {lc : Nat}
theorem HAt.obsC (hh : HAt w G k p h oA oc bA bc m lA lc) {obs : List Ob} (hl : obs.length = h.obs.length) (hs : ∀ b, b < w.heap.size → (∃ r, G b = some (k, r) ∧ r ≠ .arr ∧ ∀ i, r ≠ .fld i) → w'.heap[b]? = w.heap[b]?) (h2 : ∀ b, b < w.heap.size → G b = none → w'.heap[b]? = w.heap[b]?) (ho : ObsAt w' G k obs oA oc) : HAt w' G k p { h with obs := obs } oA oc bA bc m lA lc where
  blk := by rw [hs p (heap_lt hh.blk) ⟨_, hh.rp, by simp, by simp⟩]; show _ = some (Obj.cells (cellH oA obs.length oc bA h.bus.length bc m lA h.lev.length lc) 87 (0, 0)); rw [hl]; exact hh.blk
  rp := hh.rp
  rm := hh.rm
  obs := ho
  bus := hh.bus.same (fun b hb e => hs b hb (by rcases e with e | ⟨i, e⟩ <;> exact ⟨_, e, by simp, by simp⟩)) h2
  lev := hh.lev.same (fun b hb e => hs b hb (by rcases e with e | ⟨i, e⟩ <;> exact ⟨_, e, by simp, by simp⟩)) h2
  map := hh.map.same fun hl => hs m hl ⟨_, hh.rm, by simp, by simp⟩
theorem HAt.busC (hh : HAt w G k p h oA oc bA bc m lA lc) {bus : List Bu} (hl : bus.length = h.bus.length) (hs : ∀ b, b < w.heap.size → (∃ r, G b = some (k, r) ∧ r ≠ .bar ∧ ∀ i, r ≠ .elm i) → w'.heap[b]? = w.heap[b]?) (h2 : ∀ b, b < w.heap.size → G b = none → w'.heap[b]? = w.heap[b]?) (ho : BusAt w' G k bus bA bc) : HAt w' G k p { h with bus := bus } oA oc bA bc m lA lc where
  blk := by rw [hs p (heap_lt hh.blk) ⟨_, hh.rp, by simp, by simp⟩]; show _ = some (Obj.cells (cellH oA h.obs.length oc bA bus.length bc m lA h.lev.length lc) 87 (0, 0)); rw [hl]; exact hh.blk
  rp := hh.rp
  rm := hh.rm
  obs := hh.obs.same (fun b hb e => hs b hb (by rcases e with e | ⟨i, e⟩ <;> exact ⟨_, e, by simp, by simp⟩)) h2
  bus := ho
  lev := hh.lev.same (fun b hb e => hs b hb (by rcases e with e | ⟨i, e⟩ <;> exact ⟨_, e, by simp, by simp⟩)) h2
  map := hh.map.same fun hl => hs m hl ⟨_, hh.rm, by simp, by simp⟩
/-- A number of an object of a heap, set anew. -/
theorem HAt.setO (hh : HAt w G k p h oA oc bA bc m lA lc) {g i j : Nat} {rows : List (Array Value)} (hA : oA = some ⟨g, 0, none⟩) (hR : ObsR w G k h.obs g oc rows) {o o' : Ob} (hi : h.obs[i]? = some o) {x : Int} (ht : o'.t = o.t) (hf : o'.fields = o.fields)
    (hj : (j = 4 ∧ o'.state = x ∧ o'.count = o.count ∧ o'.weak = o.weak) ∨ (j = 5 ∧ o'.state = o.state ∧ o'.count = x ∧ o'.weak = o.weak) ∨ (j = 6 ∧ o'.state = o.state ∧ o'.count = o.count ∧ o'.weak = x)) :
    HAt (w.setCell ⟨g, i * 8 + j, none⟩ (.int .i64 x)) G k p { h with obs := h.obs.set i o' } oA oc bA bc m lA lc := by
  have hs1 := (Keep.cellOne w g (i * 8 + j) (.int .i64 x)).block
  refine hh.obsC (by simp) (fun b hb e => hs1 b hb fun e2 => ?_) (fun b hb e => hs1 b hb fun e2 => by rw [e2, hR.role] at e; cases e) (by rw [hA]; exact hR.num hi ht hf hj)
  obtain ⟨r, e3, e4, -⟩ := e
  rw [e2, hR.role] at e3; cases e3; exact e4 rfl
theorem HAt.setB (hh : HAt w G k p h oA oc bA bc m lA lc) {g i : Nat} {rows : List (Array Value)} (hA : bA = some ⟨g, 0, none⟩) (hR : BusR w G k h.bus g bc rows) {b b' : Bu} (hi : h.bus[i]? = some b) {x : Int} (hf : b'.elems = b.elems) (hc : b'.count = x) :
    HAt (w.setCell ⟨g, i * 2, none⟩ (.int .i64 x)) G k p { h with bus := h.bus.set i b' } oA oc bA bc m lA lc := by
  have hs1 := (Keep.cellOne w g (i * 2) (.int .i64 x)).block
  refine hh.busC (by simp) (fun b hb e => hs1 b hb fun e2 => ?_) (fun b hb e => hs1 b hb fun e2 => by rw [e2, hR.role] at e; cases e) (by rw [hA]; exact hR.num hi hf hc)
  obtain ⟨r, e3, e4, -⟩ := e
  rw [e2, hR.role] at e3; cases e3; exact e4 rfl
theorem HAt.stO {g i : Nat} (hh : HAt w G k p h (some ⟨g, 0, none⟩) oc bA bc m lA lc) {o : Ob} (hi : h.obs[i]? = some o) (j : Nat) (hj : j < 8) : (w.cell? ⟨g, i * 8 + j, none⟩).isSome = true ∧ w.frozen? ⟨g, i * 8 + j, none⟩ = false ∧ G g = some (k, .arr) ∧
    ∀ (x : Int) (o' : Ob), o'.t = o.t → o'.fields = o.fields → ((j = 4 ∧ o'.state = x ∧ o'.count = o.count ∧ o'.weak = o.weak) ∨ (j = 5 ∧ o'.state = o.state ∧ o'.count = x ∧ o'.weak = o.weak) ∨ (j = 6 ∧ o'.state = o.state ∧ o'.count = o.count ∧ o'.weak = x)) → HAt (w.setCell ⟨g, i * 8 + j, none⟩ (.int .i64 x)) G k p { h with obs := h.obs.set i o' } (some ⟨g, 0, none⟩) oc bA bc m lA lc := by
  obtain ⟨g', rows, e, hR⟩ := hh.obs.rows hi
  cases e
  obtain ⟨row, tr, fA, fc, hr, -⟩ := hR.get hi
  obtain ⟨h1, h2⟩ := hR.own.lies hr hj
  exact ⟨h1, h2, hR.role, fun x o' a b c => hh.setO rfl hR hi a b c⟩
theorem HAt.stB {g i : Nat} (hh : HAt w G k p h oA oc (some ⟨g, 0, none⟩) bc m lA lc) {b : Bu} (hi : h.bus[i]? = some b) : (w.cell? ⟨g, i * 2, none⟩).isSome = true ∧ w.frozen? ⟨g, i * 2, none⟩ = false ∧ G g = some (k, .bar) ∧
    ∀ (x : Int) (b' : Bu), b'.elems = b.elems → b'.count = x → HAt (w.setCell ⟨g, i * 2, none⟩ (.int .i64 x)) G k p { h with bus := h.bus.set i b' } oA oc (some ⟨g, 0, none⟩) bc m lA lc := by
  obtain ⟨g', rows, e, hR⟩ := hh.bus.rows hi
  cases e
  obtain ⟨row, eA, ec, hr, -⟩ := hR.get hi
  obtain ⟨h1, h2⟩ := hR.own.lies hr (j := 0) (by omega)
  exact ⟨h1, h2, hR.role, fun x b' a c => hh.setB rfl hR hi a c⟩
end
end Go.Proofs.Ytpamocglecangaa
namespace Go.Proofs.Ytpamocglecangaa
open Go.RowKit Go.Proofs.Ytpamocglecangaa.Nm
set_option linter.unusedSimpArgs false
set_option maxHeartbeats 4000000 in
set_option maxRecDepth 100000 in
theorem IndexF_any (F : FuncId) (x : Value) (q : Va → Bool) (l : List Va) (w : World) (D : Nat → Prop) (A : Option Addr) (n c : Nat) (h : VsAt w D l A n c) (hcf : ∀ v W, (callFunc F #[x, v]).run Try.prog W = .ok (.enter F #[x, v]) W) (hq : ∀ u rowu W, u ∈ l → VAt W D u rowu → Below w.heap.size w W → Calls Try.prog F #[x, .agg rowu] W fun e w' => e = .returned (.bool (q u)) ∧ Below W.heap.size W w') :
    Calls Try.prog 130 #[.slice A n c, .func (Fn.func F) #[x] #[]] w fun e w' => (∃ r : Int, e = .returned (.int .i64 r) ∧ decide (r ≥ 0) = l.any q) ∧ Below w.heap.size w w' := by
  have HR := Lib.hid h
  have HQ := Lib.hid hq
  have HCF := Lib.hid hcf
  have hcm := h.cap
  have hmx := h.max
  unfold maxLen at hmx
  have HL := Lib.hid h.len
  clear h hq hcf
  have hb := Below.refl w.heap.size w
  have HF : Hid (l.any q = (l.drop 0).any q) := Lib.hid rfl
  go_enter Try.func130, Try.ntmps130
  go_upto_region 0 with (fail)
  apply wp_region_lit
  (with_reducible refine wl_k ?_ ?_); exact rfl; intro K hK; go_simp; refine hK _ ?_; clear hK K
  go_upto_region 1 with (fail)
  apply wp_region_lit
  (with_reducible refine wl_k ?_ ?_); exact rfl; intro K hK; go_simp; refine hK _ ?_; clear hK K
  (with_reducible refine wl_k ?_ ?_); exact rfl; intro K hK; go_simp; refine hK _ ?_; clear hK K
  (with_reducible refine wl_k ?_ ?_); exact rfl; intro K hK; go_simp; refine hK _ ?_; clear hK K
  go_wp2_with fail
  go_loopw [8] (fun i wr => ∃ j : Nat, j ≤ n ∧ i = .int .i64 (j : Int) ∧ Hid (l.any q = (l.drop j).any q) ∧ Below w.heap.size w wr) (fun i _ => n - (intOf i).toNat)
  case atStart => exact ⟨0, by omega, rfl, HF, hb⟩
  case round =>
    clear hb HF
    obtain ⟨j, hj, rfl, HF, hb⟩ := hrel
    go_upto_region 2 with (fail)
    by_cases hlt : j < n
    · have hltI : (j : Int) < (n : Int) := by omega
      obtain ⟨b2, off2, u, rowu, rfl, -, hu, hua, hrow⟩ := (HR.out.old hb).getB hlt
      have HST : Hid ((l.drop j).any q = (q u || (l.drop (j + 1)).any q)) := Lib.hid (by
        obtain ⟨h1, e1⟩ := List.getElem?_eq_some_iff.1 hu
        rw [List.drop_eq_getElem_cons h1, e1, List.any_cons])
      have HRU := Lib.hid (hrow wr (Below.refl _ _))
      obtain ⟨bb, hbb⟩ : ∃ b, b = q u := ⟨_, rfl⟩
      have hc := HQ.out u rowu wr (List.mem_of_getElem? hu) hua hb
      rw [← hbb] at hc HST
      have HC := Lib.hid hc
      clear hu hua hrow hc hbb
      apply wp_region_lit
      (with_reducible refine wl_k ?_ ?_); exact rfl; intro K hK; go_simp; refine hK _ ?_; clear hK K
      go_upto_region 3 with (fail)
      apply wp_region_lit
      (with_reducible refine wl_k ?_ ?_); exact rfl; intro K hK; go_simp; refine hK _ ?_; clear hK K
      (with_reducible refine wl_k ?_ ?_); exact rfl; intro K hK; go_simp; refine hK _ ?_; clear hK K
      go_upto_region 4 with (fail)
      apply wp_region_lit
      (with_reducible refine wl_k ?_ ?_); exact rfl; intro K hK; go_simp; refine hK _ ?_; clear hK K
      (with_reducible refine wl_k ?_ ?_); exact rfl; intro K hK; go_simp; refine hK _ ?_; clear hK K
      (with_reducible refine wl_k ?_ ?_); exact rfl; intro K hK; go_simp; refine hK _ ?_; clear hK K
      (with_reducible refine wl_k ?_ ?_); exact rfl; intro K hK; go_simp; refine hK _ ?_; clear hK K
      ((with_reducible apply wl_rowG); exact rfl; exact rfl; exact HRU.out)
      (with_reducible refine wl_ck ?_ ?_); exact rfl; intro K hK; go_simp; refine ⟨_, _, HCF.out _ _, hK _ _ ⟨_, HC.out, ?_⟩⟩; clear hK K; rintro e w7 ⟨rfl, hb7⟩; refine ⟨_, rfl, ?_⟩; simp only [put_lit, List.set_cons_zero, List.set_cons_succ]
      replace hb := hb.trans (hb7.mono hb.size)
      clear HC hb7
      cases bb with
      | true =>
        have HF2 : Hid (true = l.any q) := Lib.hid (by rw [HF.out, HST.out]; rfl)
        clear HF HST
        go_upto_region 5 with (fail)
        apply wp_region_lit
        (with_reducible refine wl_k ?_ ?_); exact rfl; intro K hK; go_simp; refine hK _ ?_; clear hK K
        (with_reducible refine wl_k ?_ ?_); exact rfl; intro K hK; go_simp; refine hK _ ?_; clear hK K
        go_wp2_with fail
        go_ret
        exact ⟨⟨_, rfl, by rw [← HF2.out]; exact decide_eq_true (by omega)⟩, hb⟩
      | false =>
        have HF2 : Hid (l.any q = (l.drop (j + 1)).any q) := Lib.hid (by rw [HF.out, HST.out]; rfl)
        clear HF HST
        go_wp2_with fail
        go_roundw
        case rel => exact ⟨j + 1, by omega, by go_num, HF2, hb⟩
        case measure => simp [intOf]; omega
    · have hltI : ¬ (j : Int) < (n : Int) := by omega
      have HF2 : Hid (false = l.any q) := Lib.hid (by rw [HF.out, List.drop_of_length_le (by rw [HL.out]; omega)]; rfl)
      apply wp_region_lit
      (with_reducible refine wl_k ?_ ?_); exact rfl; intro K hK; go_simp; refine hK _ ?_; clear hK K
      clear HF
      go_upto_region 7 with (fail)
      apply wp_region_lit
      (with_reducible refine wl_k ?_ ?_); exact rfl; intro K hK; go_simp; refine hK _ ?_; clear hK K
      go_wp2_with fail
      go_ret
      exact ⟨⟨_, rfl, by rw [← HF2.out]; rfl⟩, hb⟩
set_option maxHeartbeats 4000000 in
set_option maxRecDepth 100000 in
theorem ContainsF_any (F : FuncId) (x : Value) (q : Va → Bool) (l : List Va) (w : World) (D : Nat → Prop) (A : Option Addr) (n c : Nat) (h : VsAt w D l A n c) (hcf : ∀ v W, (callFunc F #[x, v]).run Try.prog W = .ok (.enter F #[x, v]) W) (hq : ∀ u rowu W, u ∈ l → VAt W D u rowu → Below w.heap.size w W → Calls Try.prog F #[x, .agg rowu] W fun e w' => e = .returned (.bool (q u)) ∧ Below W.heap.size W w') :
    Calls Try.prog 103 #[.slice A n c, .func (Fn.func F) #[x] #[]] w fun e w' => e = .returned (.bool (l.any q)) ∧ Below w.heap.size w w' := by
  have HC := Lib.hid (IndexF_any F x q l w D A n c h hcf hq)
  clear h hq hcf
  have hb := Below.refl w.heap.size w
  go_enter Try.func103, Try.ntmps103
  go_upto_region 0 with (fail)
  apply wp_region_lit
  (with_reducible refine wl_k ?_ ?_); exact rfl; intro K hK; go_simp; refine hK _ ?_; clear hK K
  go_upto_region 1 with (fail)
  apply wp_region_lit
  (with_reducible refine wl_k ?_ ?_); exact rfl; intro K hK; go_simp; refine hK _ ?_; clear hK K
  (with_reducible refine wl_k ?_ ?_); exact rfl; intro K hK; go_simp; refine hK _ ?_; clear hK K
  (with_reducible refine wl_ck ?_ ?_); exact rfl; intro K hK; go_simp; refine ⟨_, _, ⟨rfl, rfl⟩, hK _ _ ⟨_, HC.out, ?_⟩⟩; clear hK K; rintro e w7 ⟨⟨r, rfl, hr⟩, hb7⟩; refine ⟨_, rfl, ?_⟩; simp only [put_lit, List.set_cons_zero, List.set_cons_succ]
  have HRR := Lib.hid hr
  clear hr
  (with_reducible refine wl_k ?_ ?_); exact rfl; intro K hK; go_simp; refine hK _ ?_; clear hK K
  (with_reducible refine wl_k ?_ ?_); exact rfl; intro K hK; go_simp; refine hK _ ?_; clear hK K
  clear HC hb
  go_wp2_with fail
  go_ret
  exact ⟨by rw [← HRR.out]; rfl, hb7⟩
theorem cf74 (x v : Value) (W : World) : (callFunc 74 #[x, v]).run Try.prog W = .ok (.enter 74 #[x, v]) W := by kernel_rfl
def DeadC (G : Gh) (k : Nat) (p : Nat) (h : Hp) (v : Va) : Prop := ∀ (w : World) (D : Nat → Prop) (row : Array Value) (oA : Option Addr) (oc : Nat) (bA : Option Addr) (bc m : Nat) (lA : Option Addr) (lc : Nat), VAt w D v row → HAt w G k p h oA oc bA bc m lA lc → ofV h.obs.length h.bus.length v = true →
  Calls Try.prog 74 #[.pointer (some ⟨p, 0, none⟩), .agg row] w fun e w' => e = .returned (.bool (deadV h v)) ∧ Below w.heap.size w w'
theorem deadVs_any {h : Hp} : ∀ {l : List Va}, deadVs h l = l.any (deadV h)
  | [] => rfl
  | v :: l => by rw [deadVs, List.any_cons, deadVs_any]
set_option maxHeartbeats 4000000 in
set_option maxRecDepth 100000 in
theorem dead_any (G : Gh) (k : Nat) (p : Nat) (h : Hp) : ∀ v : Va, DeadC G k p h v := Va.ind fun v ih w D row oA oc bA bc m lA lc hv hh ho => by
  obtain ⟨tr, A2, l2, c2, A3, l3, c3, hr⟩ := hv.row
  have HR := Lib.hid hr
  have HI := Lib.hid ih
  have HH := Lib.hid hh
  have HO := Lib.hid ho
  have hh0 := hh.blk
  clear hv hr ih ho hh
  have hh := hh0
  clear hh0
  have hb := Below.refl w.heap.size w
  go_enter Try.func74, Try.ntmps74
  go_upto_region 0 with (fail)
  apply wp_region_lit
  have lthhq := heap_lt hh; (with_reducible refine wl_boxV rfl ?_); intro W q hbn hlq hq; replace hh := below_look hbn hh; replace hb := hb.trans (hbn.mono hb.size); clear hbn; simp only [put_lit, List.set_cons_zero, List.set_cons_succ]
  (with_reducible refine wl_k ?_ ?_); exact rfl; intro K hK; go_simp; refine hK _ ?_; clear hK K
  have hp := hq
  clear hq
  go_upto_region 1 with (fail)
  apply wp_region_lit
  (with_reducible refine wl_k ?_ ?_); exact rfl; intro K hK; go_simp; refine hK _ ?_; clear hK K
  (first | ((with_reducible apply wl_oneG); exact rfl; exact rfl; first | exact vk (by with_reducible assumption) (by with_reducible assumption) | exact vn (by with_reducible assumption) (by with_reducible assumption) | exact vl (by with_reducible assumption) (by with_reducible assumption) | exact vts (by with_reducible assumption) (by with_reducible assumption) | exact vs (by with_reducible assumption) (by with_reducible assumption)) | ((with_reducible apply wl_rowG); exact rfl; exact rfl; first | exact vrow (by with_reducible assumption) (by with_reducible assumption) | exact vt (by with_reducible assumption) (by with_reducible assumption)))
  by_cases h7 : v.kind = 7
  · have e7 : (v.kind == 7) = true := by simp [h7]
    have h1 : 0 ≤ v.num ∧ v.num < (h.obs.length : Int) := by
      have := HO.out
      rw [ofV_eq, if_pos (.inl h7)] at this
      exact of_decide_eq_true this
    obtain ⟨n, hn⟩ : ∃ n : Nat, v.num = (n : Int) := ⟨v.num.toNat, by omega⟩
    have hnl : n < h.obs.length := by omega
    have hnlI : (n : Int) < (h.obs.length : Int) := by omega
    have ho := List.getElem?_eq_getElem hnl
    obtain ⟨o, hoe⟩ : ∃ o, o = h.obs[n] := ⟨_, rfl⟩
    rw [← hoe] at ho
    obtain ⟨g, rows, rfl, hR⟩ := (HH.out.old hb).obs.rows ho
    obtain ⟨tr0, fA, fc, hL, -, -⟩ := hR.loads ho
    have HL := Lib.hid hL
    have HD : Hid ((o.state == 3) = deadV h v) := Lib.hid (by rw [deadV_eq, if_pos h7, hn, Bool.eq_iff_iff]; simp [ho])
    have HN := Lib.hid hn
    clear h7 h1 hn hoe hR hL HI HO ho
    go_upto_region 3 with (fail)
    refine wp_region_belowAll mixed (by kernel_rfl) ?_
    (with_reducible refine wq_k ?_ ?_); exact rfl; intro K hK; go_simp; (with_reducible refine hK _ ?_); clear hK K
    (with_reducible refine wq_k ?_ ?_); exact rfl; intro K hK; go_simp; (with_reducible refine hK _ ?_); clear hK K
    (with_reducible refine wq_k ?_ ?_); exact rfl; intro K hK; go_simp; (with_reducible refine hK _ ?_); clear hK K
    ((with_reducible apply wq_one); exact rfl; exact rfl; intro w' hw'; first | exact vk (below_look hw' (by with_reducible assumption)) (by with_reducible assumption) | exact vn (below_look hw' (by with_reducible assumption)) (by with_reducible assumption) | exact vl (below_look hw' (by with_reducible assumption)) (by with_reducible assumption) | exact h0 (below_look hw' (by with_reducible assumption)) | exact h1 (below_look hw' (by with_reducible assumption)) | exact h2 (below_look hw' (by with_reducible assumption)) | exact h3 (below_look hw' (by with_reducible assumption)))
    (with_reducible refine wq_k ?_ ?_); exact rfl; intro K hK; go_simp; (with_reducible refine hK _ ?_); clear hK K
    ((with_reducible apply wq_one); exact rfl; exact rfl; intro w' hw'; exact vnN (below_look hw' (by with_reducible assumption)) (by with_reducible assumption) (by with_reducible assumption))
    (with_reducible refine wq_k ?_ ?_); exact rfl; intro K hK; go_simp; (with_reducible refine hK _ ?_); clear hK K
    (with_reducible refine wq_k ?_ ?_); exact rfl; intro K hK; go_simp; (with_reducible refine hK _ ?_); clear hK K
    ((with_reducible apply wq_one); exact rfl; exact rfl; intro w' hw'; exact (HL.out w' hw').s)
    (with_reducible refine wq_k ?_ ?_); exact rfl; intro K hK; go_simp; (with_reducible refine hK _ ?_); clear hK K
    (with_reducible refine wq_k ?_ ?_); exact rfl; intro K hK; go_simp; (with_reducible refine hK _ ?_); clear hK K
    intro w7 hb7
    replace hb := hb.trans (hb7.mono hb.size)
    clear hb7 hp hh HL
    go_wp2_with fail
    go_ret
    exact ⟨by rw [← HD.out]; rfl, hb⟩
  · have e7 : (v.kind == 7) = false := by simp [h7]
    by_cases h8 : v.kind = 8
    · have e8 : (v.kind == 8) = true := by simp [h8]
      have h1 : 0 ≤ v.num ∧ v.num < (h.bus.length : Int) := by
        have := HO.out
        rw [ofV_eq, if_neg (by omega), if_pos h8] at this
        exact of_decide_eq_true this
      obtain ⟨n, hn⟩ : ∃ n : Nat, v.num = (n : Int) := ⟨v.num.toNat, by omega⟩
      have hnl : n < h.bus.length := by omega
      have hnlI : (n : Int) < (h.bus.length : Int) := by omega
      have ho := List.getElem?_eq_getElem hnl
      obtain ⟨o, hoe⟩ : ∃ o, o = h.bus[n] := ⟨_, rfl⟩
      rw [← hoe] at ho
      obtain ⟨g, rows, rfl, hR⟩ := (HH.out.old hb).bus.rows ho
      obtain ⟨fA, fc, hL, -⟩ := hR.loads ho
      have HL := Lib.hid hL
      have HD : Hid ((o.count == 0) = deadV h v) := Lib.hid (by rw [deadV_eq, if_neg h7, if_pos h8, hn, Bool.eq_iff_iff]; simp [ho])
      have HN := Lib.hid hn
      clear h7 h8 h1 hn hoe hR hL HI HO ho
      go_upto_region 5 with (fail)
      refine wp_region_belowAll mixed (by kernel_rfl) ?_
      (with_reducible refine wq_k ?_ ?_); exact rfl; intro K hK; go_simp; (with_reducible refine hK _ ?_); clear hK K
      (with_reducible refine wq_k ?_ ?_); exact rfl; intro K hK; go_simp; (with_reducible refine hK _ ?_); clear hK K
      (with_reducible refine wq_k ?_ ?_); exact rfl; intro K hK; go_simp; (with_reducible refine hK _ ?_); clear hK K
      ((with_reducible apply wq_one); exact rfl; exact rfl; intro w' hw'; first | exact vk (below_look hw' (by with_reducible assumption)) (by with_reducible assumption) | exact vn (below_look hw' (by with_reducible assumption)) (by with_reducible assumption) | exact vl (below_look hw' (by with_reducible assumption)) (by with_reducible assumption) | exact h0 (below_look hw' (by with_reducible assumption)) | exact h1 (below_look hw' (by with_reducible assumption)) | exact h2 (below_look hw' (by with_reducible assumption)) | exact h3 (below_look hw' (by with_reducible assumption)))
      (with_reducible refine wq_k ?_ ?_); exact rfl; intro K hK; go_simp; (with_reducible refine hK _ ?_); clear hK K
      ((with_reducible apply wq_one); exact rfl; exact rfl; intro w' hw'; exact vnN (below_look hw' (by with_reducible assumption)) (by with_reducible assumption) (by with_reducible assumption))
      (with_reducible refine wq_k ?_ ?_); exact rfl; intro K hK; go_simp; (with_reducible refine hK _ ?_); clear hK K
      (with_reducible refine wq_k ?_ ?_); exact rfl; intro K hK; go_simp; (with_reducible refine hK _ ?_); clear hK K
      ((with_reducible apply wq_one); exact rfl; exact rfl; intro w' hw'; exact (HL.out w' hw').c)
      (with_reducible refine wq_k ?_ ?_); exact rfl; intro K hK; go_simp; (with_reducible refine hK _ ?_); clear hK K
      (with_reducible refine wq_k ?_ ?_); exact rfl; intro K hK; go_simp; (with_reducible refine hK _ ?_); clear hK K
      intro w7 hb7
      replace hb := hb.trans (hb7.mono hb.size)
      clear hb7 hp hh HL
      go_wp2_with fail
      go_ret
      exact ⟨by rw [← HD.out]; rfl, hb⟩
    · have e8 : (v.kind == 8) = false := by simp [h8]
      have HE : Hid (deadV h v = if hasK v.kind then deadVs h v.parts else false) := Lib.hid (by rw [deadV_eq]; simp [h7, h8])
      have HO2 : Hid (hasK v.kind = true → ∀ u, u ∈ v.parts → ofV h.obs.length h.bus.length u = true) := Lib.hid fun hk => by
        have := HO.out
        rw [ofV_eq, if_neg (by rintro (h | h); exact h7 h; rw [h] at hk; cases hk), if_neg h8, if_pos hk] at this
        exact ofVs_iff.1 this
      clear h7 h8 HO
      obtain ⟨f5, hf5⟩ : ∃ b : Bool, b = (v.kind == 5) := ⟨_, rfl⟩
      obtain ⟨f6, hf6⟩ : ∃ b : Bool, b = (v.kind == 6) := ⟨_, rfl⟩
      obtain ⟨f9, hf9⟩ : ∃ b : Bool, b = (v.kind == 9) := ⟨_, rfl⟩
      obtain ⟨f10, hf10⟩ : ∃ b : Bool, b = (v.kind == 10) := ⟨_, rfl⟩
      have d5 := hf5.symm
      have d6 := hf6.symm
      have d9 := hf9.symm
      have d10 := hf10.symm
      obtain ⟨q46, hq46⟩ : ∃ b : Bool, b = (f5 || (f6 || (f9 || f10))) := ⟨_, rfl⟩
      have HQ := Lib.hid hq46
      have HK : Hid (q46 = hasK v.kind) := Lib.hid (by rw [hq46, hasK_eq, hf5, hf6, hf9, hf10])
      clear hf5 hf6 hf9 hf10 hq46
      go_upto_if 31 with (fail)
      go_cut [31] (fun s46 wx => s46 = .bool q46 ∧ W = wx)
      case first =>
        cases f5 <;> cases f6 <;> cases f9 <;> cases f10
        all_goals
          go_wp2_with fail
          go_meet
          exact ⟨by rw [HQ.out]; rfl, rfl⟩
      case rest =>
        obtain ⟨rfl, rfl⟩ := hcut
        clear d5 d6 d9 d10 HQ
        cases q46 with
        | false =>
          have HF : Hid (deadV h v = false) := Lib.hid (by rw [HE.out, ← HK.out, if_neg (by simp)])
          clear hp hh
          go_upto_region 11 with (fail)
          apply wp_region_lit
          (with_reducible refine wl_k ?_ ?_); exact rfl; intro K hK; go_simp; refine hK _ ?_; clear hK K
          go_wp2_with fail
          go_ret
          exact ⟨by rw [HF.out]; rfl, hb⟩
        | true =>
          have HF : Hid (deadV h v = v.parts.any (deadV h)) := Lib.hid (by rw [HE.out, ← HK.out, if_pos rfl, deadVs_any])
          have HC := Lib.hid (ContainsF_any 74 (.pointer (some ⟨p, 0, none⟩)) (deadV h) v.parts _ D A3 l3 c3 (HR.out.vs.old hb) (cf74 _) (fun u rowu W2 hu hua hbw => HI.out u hu W2 D rowu _ _ _ _ _ _ _ hua ((HH.out.old hb).old hbw) (HO2.out HK.out.symm u hu)))
          have hmf : ∀ (fn : Fn) (first cap : Array Value) (w : World), (Instr.makeFunc fn first cap).run Try.prog w = .ok (.func fn first cap) w := fun _ _ _ _ => rfl
          clear HE HO2 HI
          go_upto_region 10 with (fail)
          apply wp_region_lit
          (with_reducible refine wl_k ?_ ?_); exact rfl; intro K hK; go_simp; refine hK _ ?_; clear hK K
          (first | ((with_reducible apply wl_oneG); exact rfl; exact rfl; first | exact vk (by with_reducible assumption) (by with_reducible assumption) | exact vn (by with_reducible assumption) (by with_reducible assumption) | exact vl (by with_reducible assumption) (by with_reducible assumption) | exact vts (by with_reducible assumption) (by with_reducible assumption) | exact vs (by with_reducible assumption) (by with_reducible assumption)) | ((with_reducible apply wl_rowG); exact rfl; exact rfl; first | exact vrow (by with_reducible assumption) (by with_reducible assumption) | exact vt (by with_reducible assumption) (by with_reducible assumption)))
          (with_reducible refine wl_k ?_ ?_); exact rfl; intro K hK; go_simp; refine hK _ ?_; clear hK K
          (with_reducible refine wl_k ?_ ?_); exact rfl; intro K hK; go_simp; refine hK _ ?_; clear hK K
          (with_reducible refine wl_ck ?_ ?_); exact rfl; intro K hK; go_simp; refine ⟨_, _, ⟨rfl, rfl⟩, hK _ _ ⟨_, HC.out, ?_⟩⟩; clear hK K; rintro e w7 ⟨rfl, hb7⟩; refine ⟨_, rfl, ?_⟩; simp only [put_lit, List.set_cons_zero, List.set_cons_succ]
          (with_reducible refine wl_k ?_ ?_); exact rfl; intro K hK; go_simp; refine hK _ ?_; clear hK K
          replace hb := hb.trans (hb7.mono hb.size)
          clear HC hb7
          go_wp2_with fail
          go_ret
          exact ⟨by rw [HF.out]; rfl, hb⟩
end Go.Proofs.Ytpamocglecangaa
namespace Go.Proofs.Ytpamocglecangaa
open Go.RowKit Go.Proofs.Ytpamocglecangaa.Nm
set_option linter.unusedSimpArgs false
theorem cntV_same (x : Int) : ∀ (v : Va) (h : Hp), (cntV x v h).obs.length = h.obs.length ∧ (cntV x v h).bus.length = h.bus.length ∧ (cntV x v h).lev = h.lev ∧ (cntV x v h).dei = h.dei := Va.ind fun v ih h => by
  have hl : ∀ (l : List Va), (∀ u, u ∈ l → u ∈ v.parts) → ∀ h, (cntVs x l h).obs.length = h.obs.length ∧ (cntVs x l h).bus.length = h.bus.length ∧ (cntVs x l h).lev = h.lev ∧ (cntVs x l h).dei = h.dei := by
    intro l
    induction l with
    | nil => intro _ h; rw [cntVs]; exact ⟨rfl, rfl, rfl, rfl⟩
    | cons u l ihl =>
      intro hm h
      rw [cntVs]
      have h1 := ih u (hm u (by simp)) h
      have h2 := ihl (fun u hu => hm u (by simp [hu])) (cntV x u h)
      exact ⟨h2.1.trans h1.1, h2.2.1.trans h1.2.1, h2.2.2.1.trans h1.2.2.1, h2.2.2.2.trans h1.2.2.2⟩
  rw [cntV_eq]
  split
  · simp
  · split
    · simp
    · split
      · simp
      · split
        · exact hl v.parts (fun _ h => h) h
        · exact ⟨rfl, rfl, rfl, rfl⟩
theorem cntVs_same (x : Int) : ∀ (l : List Va) (h : Hp), (cntVs x l h).obs.length = h.obs.length ∧ (cntVs x l h).bus.length = h.bus.length ∧ (cntVs x l h).lev = h.lev ∧ (cntVs x l h).dei = h.dei
  | [], h => by rw [cntVs]; exact ⟨rfl, rfl, rfl, rfl⟩
  | u :: l, h => by
    rw [cntVs]
    have h1 := cntV_same x u h
    have h2 := cntVs_same x l (cntV x u h)
    exact ⟨h2.1.trans h1.1, h2.2.1.trans h1.2.1, h2.2.2.1.trans h1.2.2.1, h2.2.2.2.trans h1.2.2.2⟩
/-- Blocks that a count writes into. -/
def Cnt (G : Gh) (k : Nat) (b : Nat) : Prop := G b = some (k, .arr) ∨ G b = some (k, .bar)
theorem Cnt.mine {G : Gh} {k b : Nat} (h : Cnt G k b) : Mine G k b := by rcases h with h | h <;> exact ⟨_, h, by simp⟩
theorem Cnt.imm {G : Gh} {k b : Nat} (h : Imm G b) : ¬ Cnt G k b := by rintro (h2 | h2) <;> (unfold Imm at h; rw [h] at h2; cases h2)
def Fr (w : World) (G : Gh) : Prop := ∀ b, w.heap.size ≤ b → G b = none
theorem Fr.on {w w' : World} {G : Gh} (h : Fr w G) (hs : w.heap.size ≤ w'.heap.size) : Fr w' G := fun b hb => h b (by omega)
def CountC (G : Gh) (k p : Nat) (x : Int) (v : Va) : Prop := ∀ (h : Hp) (w : World) (row : Array Value) (oA : Option Addr) (oc : Nat) (bA : Option Addr) (bc m : Nat) (lA : Option Addr) (lc : Nat), VAt w (Imm G) v row → HAt w G k p h oA oc bA bc m lA lc → Fr w G → ofV h.obs.length h.bus.length v = true →
  Calls Try.prog 75 #[.pointer (some ⟨p, 0, none⟩), .agg row, .int .i64 x] w fun e w' => e = .returned (.tuple #[]) ∧ HAt w' G k p (cntV x v h) oA oc bA bc m lA lc ∧ Keep (Cnt G k) w w'
set_option maxHeartbeats 8000000 in
set_option maxRecDepth 100000 in
theorem count_any (G : Gh) (k p : Nat) (x : Int) (hx : (Lit.int .i64 x).wf = true) : ∀ v : Va, CountC G k p x v := Va.ind fun v ih h w row oA oc bA bc m lA lc hv hh hf ho => by
  obtain ⟨tr, A2, l2, c2, A3, l3, c3, hr⟩ := hv.row
  have hcm3 := hr.vs.cap
  have hmx3 := hr.vs.max
  unfold maxLen at hmx3
  have HL3 := Lib.hid hr.vs.len
  have HR := Lib.hid hr
  have HI := Lib.hid ih
  have HH := Lib.hid hh
  have HO := Lib.hid ho
  have HFr := Lib.hid hf
  have hh0 := hh.blk
  clear hv hr ih ho hh hf
  have hh := hh0
  clear hh0
  have hb := Below.refl w.heap.size w
  go_enter Try.func75, Try.ntmps75
  go_upto_region 0 with (fail)
  apply wp_region_lit
  have lthhq := heap_lt hh; (with_reducible refine wl_boxV rfl ?_); intro W q hbn hlq hq; replace hh := below_look hbn hh; replace hb := hb.trans (hbn.mono hb.size); clear hbn; simp only [put_lit, List.set_cons_zero, List.set_cons_succ]
  have hp := hq
  clear hq
  go_upto_region 1 with (fail)
  apply wp_region_lit
  (with_reducible refine wl_k ?_ ?_); exact rfl; intro K hK; go_simp; refine hK _ ?_; clear hK K
  (first | ((with_reducible apply wl_oneG); exact rfl; exact rfl; first | exact vk (by with_reducible assumption) (by with_reducible assumption) | exact vn (by with_reducible assumption) (by with_reducible assumption) | exact vl (by with_reducible assumption) (by with_reducible assumption) | exact vts (by with_reducible assumption) (by with_reducible assumption) | exact vs (by with_reducible assumption) (by with_reducible assumption)) | ((with_reducible apply wl_rowG); exact rfl; exact rfl; first | exact vrow (by with_reducible assumption) (by with_reducible assumption) | exact vt (by with_reducible assumption) (by with_reducible assumption)))
  by_cases h7 : v.kind = 7
  · have e7 : (v.kind == 7) = true := by simp [h7]
    have h1 : 0 ≤ v.num ∧ v.num < (h.obs.length : Int) := by
      have := HO.out
      rw [ofV_eq, if_pos (by omega)] at this
      exact of_decide_eq_true this
    obtain ⟨n, hn⟩ : ∃ n : Nat, v.num = (n : Int) := ⟨v.num.toNat, by omega⟩
    have hnl : n < h.obs.length := by omega
    have hnlI : (n : Int) < (h.obs.length : Int) := by omega
    have ho := List.getElem?_eq_getElem hnl
    obtain ⟨o, hoe⟩ : ∃ o, o = h.obs[n] := ⟨_, rfl⟩
    rw [← hoe] at ho
    obtain ⟨g, rows, rfl, hR⟩ := (HH.out.old hb).obs.rows ho
    obtain ⟨tr0, fA, fc, hL, -, -⟩ := hR.loads ho
    have HL := Lib.hid hL
    have HOO := Lib.hid ho
    have HD : Hid (cntV x v h = { h with obs := h.obs.set n (addC x o) }) := Lib.hid (by rw [cntV_eq, if_pos h7, hn]; show (_ : Hp) = _; rw [Int.toNat_natCast, modify_eq _ ho])
    have HN := Lib.hid hn
    clear h1 hn hoe hR hL HI HO ho
    go_upto_region 3 with (fail)
    refine wp_region_below 13 mixed (by kernel_rfl) ?_; simp only [List.take_succ_cons, List.take_zero, List.drop_succ_cons, List.drop_zero]
    (with_reducible refine wq_k ?_ ?_); exact rfl; intro K hK; go_simp; (with_reducible refine hK _ ?_); clear hK K
    (with_reducible refine wq_k ?_ ?_); exact rfl; intro K hK; go_simp; (with_reducible refine hK _ ?_); clear hK K
    (with_reducible refine wq_k ?_ ?_); exact rfl; intro K hK; go_simp; (with_reducible refine hK _ ?_); clear hK K
    ((with_reducible apply wq_one); exact rfl; exact rfl; intro w' hw'; first | exact vk (below_look hw' (by with_reducible assumption)) (by with_reducible assumption) | exact vn (below_look hw' (by with_reducible assumption)) (by with_reducible assumption) | exact vl (below_look hw' (by with_reducible assumption)) (by with_reducible assumption) | exact h0 (below_look hw' (by with_reducible assumption)) | exact h1 (below_look hw' (by with_reducible assumption)) | exact h2 (below_look hw' (by with_reducible assumption)) | exact h3 (below_look hw' (by with_reducible assumption)))
    (with_reducible refine wq_k ?_ ?_); exact rfl; intro K hK; go_simp; (with_reducible refine hK _ ?_); clear hK K
    ((with_reducible apply wq_one); exact rfl; exact rfl; intro w' hw'; exact vnN (below_look hw' (by with_reducible assumption)) (by with_reducible assumption) (by with_reducible assumption))
    (with_reducible refine wq_k ?_ ?_); exact rfl; intro K hK; go_simp; (with_reducible refine hK _ ?_); clear hK K
    (with_reducible refine wq_k ?_ ?_); exact rfl; intro K hK; go_simp; (with_reducible refine hK _ ?_); clear hK K
    ((with_reducible apply wq_one); exact rfl; exact rfl; intro w' hw'; exact (HL.out w' hw').c)
    (with_reducible refine wq_k ?_ ?_); exact rfl; intro K hK; go_simp; (with_reducible refine hK _ ?_); clear hK K
    (with_reducible refine wq_k ?_ ?_); exact rfl; intro K hK; go_simp; (with_reducible refine hK _ ?_); clear hK K
    (with_reducible refine wq_k ?_ ?_); exact rfl; intro K hK; go_simp; (with_reducible refine hK _ ?_); clear hK K
    (with_reducible refine wq_k ?_ ?_); exact rfl; intro K hK; go_simp; (with_reducible refine hK _ ?_); clear hK K
    intro w7 hb7
    have hb0 := hb.trans (hb7.mono hb.size)
    have HH7 := Lib.hid (HH.out.old hb0)
    clear hp hh HL hb7 hb
    obtain ⟨hs1, hs2, hrl, hset⟩ := HH7.out.stO HOO.out 5 (by omega)
    have HS := Lib.hid hset
    clear hset
    refine wl_storeC rfl 3 _ _ rfl g _ _ rfl rfl info3 rfl hs1 hs2 ?_
    rw [put_noneA]
    go_wp2_with fail
    go_end0
    refine ⟨rfl, by rw [HD.out]; exact HS.out _ _ rfl rfl (by simp [addC, w64]), (Keep.of hb0).trans (C' := fun b => b = g) (fun b hb => ?_) (Keep.cellOne _ _ _ _)⟩
    subst hb; exact .inl (.inl hrl)
  · have e7 : (v.kind == 7) = false := by simp [h7]
    by_cases h11 : v.kind = 11
    · have e11 : (v.kind == 11) = true := by simp [h11]
      have h1 : 0 ≤ v.num ∧ v.num < (h.obs.length : Int) := by
        have := HO.out
        rw [ofV_eq, if_pos (by omega)] at this
        exact of_decide_eq_true this
      obtain ⟨n, hn⟩ : ∃ n : Nat, v.num = (n : Int) := ⟨v.num.toNat, by omega⟩
      have hnl : n < h.obs.length := by omega
      have hnlI : (n : Int) < (h.obs.length : Int) := by omega
      have ho := List.getElem?_eq_getElem hnl
      obtain ⟨o, hoe⟩ : ∃ o, o = h.obs[n] := ⟨_, rfl⟩
      rw [← hoe] at ho
      obtain ⟨g, rows, rfl, hR⟩ := (HH.out.old hb).obs.rows ho
      obtain ⟨tr0, fA, fc, hL, -, -⟩ := hR.loads ho
      have HL := Lib.hid hL
      have HOO := Lib.hid ho
      have HD : Hid (cntV x v h = { h with obs := h.obs.set n (addW x o) }) := Lib.hid (by rw [cntV_eq, if_neg h7, if_pos h11, hn]; show (_ : Hp) = _; rw [Int.toNat_natCast, modify_eq _ ho])
      have HN := Lib.hid hn
      clear h1 hn hoe hR hL HI HO ho
      go_upto_region 5 with (fail)
      refine wp_region_below 13 mixed (by kernel_rfl) ?_; simp only [List.take_succ_cons, List.take_zero, List.drop_succ_cons, List.drop_zero]
      (with_reducible refine wq_k ?_ ?_); exact rfl; intro K hK; go_simp; (with_reducible refine hK _ ?_); clear hK K
      (with_reducible refine wq_k ?_ ?_); exact rfl; intro K hK; go_simp; (with_reducible refine hK _ ?_); clear hK K
      (with_reducible refine wq_k ?_ ?_); exact rfl; intro K hK; go_simp; (with_reducible refine hK _ ?_); clear hK K
      ((with_reducible apply wq_one); exact rfl; exact rfl; intro w' hw'; first | exact vk (below_look hw' (by with_reducible assumption)) (by with_reducible assumption) | exact vn (below_look hw' (by with_reducible assumption)) (by with_reducible assumption) | exact vl (below_look hw' (by with_reducible assumption)) (by with_reducible assumption) | exact h0 (below_look hw' (by with_reducible assumption)) | exact h1 (below_look hw' (by with_reducible assumption)) | exact h2 (below_look hw' (by with_reducible assumption)) | exact h3 (below_look hw' (by with_reducible assumption)))
      (with_reducible refine wq_k ?_ ?_); exact rfl; intro K hK; go_simp; (with_reducible refine hK _ ?_); clear hK K
      ((with_reducible apply wq_one); exact rfl; exact rfl; intro w' hw'; exact vnN (below_look hw' (by with_reducible assumption)) (by with_reducible assumption) (by with_reducible assumption))
      (with_reducible refine wq_k ?_ ?_); exact rfl; intro K hK; go_simp; (with_reducible refine hK _ ?_); clear hK K
      (with_reducible refine wq_k ?_ ?_); exact rfl; intro K hK; go_simp; (with_reducible refine hK _ ?_); clear hK K
      ((with_reducible apply wq_one); exact rfl; exact rfl; intro w' hw'; exact (HL.out w' hw').k)
      (with_reducible refine wq_k ?_ ?_); exact rfl; intro K hK; go_simp; (with_reducible refine hK _ ?_); clear hK K
      (with_reducible refine wq_k ?_ ?_); exact rfl; intro K hK; go_simp; (with_reducible refine hK _ ?_); clear hK K
      (with_reducible refine wq_k ?_ ?_); exact rfl; intro K hK; go_simp; (with_reducible refine hK _ ?_); clear hK K
      (with_reducible refine wq_k ?_ ?_); exact rfl; intro K hK; go_simp; (with_reducible refine hK _ ?_); clear hK K
      intro w7 hb7
      have hb0 := hb.trans (hb7.mono hb.size)
      have HH7 := Lib.hid (HH.out.old hb0)
      clear hp hh HL hb7 hb
      obtain ⟨hs1, hs2, hrl, hset⟩ := HH7.out.stO HOO.out 6 (by omega)
      have HS := Lib.hid hset
      clear hset
      refine wl_storeC rfl 3 _ _ rfl g _ _ rfl rfl info3 rfl hs1 hs2 ?_
      rw [put_noneA]
      go_wp2_with fail
      go_end0
      refine ⟨rfl, by rw [HD.out]; exact HS.out _ _ rfl rfl (by simp [addW, w64]), (Keep.of hb0).trans (C' := fun b => b = g) (fun b hb => ?_) (Keep.cellOne _ _ _ _)⟩
      subst hb; exact .inl (.inl hrl)
    · have e11 : (v.kind == 11) = false := by simp [h11]
      by_cases h8 : v.kind = 8
      · have e8 : (v.kind == 8) = true := by simp [h8]
        have h1 : 0 ≤ v.num ∧ v.num < (h.bus.length : Int) := by
          have := HO.out
          rw [ofV_eq, if_neg (by omega), if_pos h8] at this
          exact of_decide_eq_true this
        obtain ⟨n, hn⟩ : ∃ n : Nat, v.num = (n : Int) := ⟨v.num.toNat, by omega⟩
        have hnl : n < h.bus.length := by omega
        have hnlI : (n : Int) < (h.bus.length : Int) := by omega
        have ho := List.getElem?_eq_getElem hnl
        obtain ⟨o, hoe⟩ : ∃ o, o = h.bus[n] := ⟨_, rfl⟩
        rw [← hoe] at ho
        obtain ⟨g, rows, rfl, hR⟩ := (HH.out.old hb).bus.rows ho
        obtain ⟨fA, fc, hL, -⟩ := hR.loads ho
        have HL := Lib.hid hL
        have HOO := Lib.hid ho
        have HD : Hid (cntV x v h = { h with bus := h.bus.set n (addB x o) }) := Lib.hid (by rw [cntV_eq, if_neg h7, if_neg h11, if_pos h8, hn]; show (_ : Hp) = _; rw [Int.toNat_natCast, modify_eq _ ho])
        have HN := Lib.hid hn
        clear h1 hn hoe hR hL HI HO ho
        go_upto_region 7 with (fail)
        refine wp_region_below 13 mixed (by kernel_rfl) ?_; simp only [List.take_succ_cons, List.take_zero, List.drop_succ_cons, List.drop_zero]
        (with_reducible refine wq_k ?_ ?_); exact rfl; intro K hK; go_simp; (with_reducible refine hK _ ?_); clear hK K
        (with_reducible refine wq_k ?_ ?_); exact rfl; intro K hK; go_simp; (with_reducible refine hK _ ?_); clear hK K
        (with_reducible refine wq_k ?_ ?_); exact rfl; intro K hK; go_simp; (with_reducible refine hK _ ?_); clear hK K
        ((with_reducible apply wq_one); exact rfl; exact rfl; intro w' hw'; first | exact vk (below_look hw' (by with_reducible assumption)) (by with_reducible assumption) | exact vn (below_look hw' (by with_reducible assumption)) (by with_reducible assumption) | exact vl (below_look hw' (by with_reducible assumption)) (by with_reducible assumption) | exact h0 (below_look hw' (by with_reducible assumption)) | exact h1 (below_look hw' (by with_reducible assumption)) | exact h2 (below_look hw' (by with_reducible assumption)) | exact h3 (below_look hw' (by with_reducible assumption)))
        (with_reducible refine wq_k ?_ ?_); exact rfl; intro K hK; go_simp; (with_reducible refine hK _ ?_); clear hK K
        ((with_reducible apply wq_one); exact rfl; exact rfl; intro w' hw'; exact vnN (below_look hw' (by with_reducible assumption)) (by with_reducible assumption) (by with_reducible assumption))
        (with_reducible refine wq_k ?_ ?_); exact rfl; intro K hK; go_simp; (with_reducible refine hK _ ?_); clear hK K
        (with_reducible refine wq_k ?_ ?_); exact rfl; intro K hK; go_simp; (with_reducible refine hK _ ?_); clear hK K
        ((with_reducible apply wq_one); exact rfl; exact rfl; intro w' hw'; exact (HL.out w' hw').c)
        (with_reducible refine wq_k ?_ ?_); exact rfl; intro K hK; go_simp; (with_reducible refine hK _ ?_); clear hK K
        (with_reducible refine wq_k ?_ ?_); exact rfl; intro K hK; go_simp; (with_reducible refine hK _ ?_); clear hK K
        (with_reducible refine wq_k ?_ ?_); exact rfl; intro K hK; go_simp; (with_reducible refine hK _ ?_); clear hK K
        (with_reducible refine wq_k ?_ ?_); exact rfl; intro K hK; go_simp; (with_reducible refine hK _ ?_); clear hK K
        intro w7 hb7
        have hb0 := hb.trans (hb7.mono hb.size)
        have HH7 := Lib.hid (HH.out.old hb0)
        clear hp hh HL hb7 hb
        obtain ⟨hs1, hs2, hrl, hset⟩ := HH7.out.stB HOO.out
        have HS := Lib.hid hset
        clear hset
        refine wl_storeC rfl 3 _ _ rfl g _ _ rfl rfl info3 rfl hs1 hs2 ?_
        rw [put_noneA]
        go_wp2_with fail
        go_end0
        refine ⟨rfl, by rw [HD.out]; exact HS.out _ _ rfl rfl, (Keep.of hb0).trans (C' := fun b => b = g) (fun b hb => ?_) (Keep.cellOne _ _ _ _)⟩
        subst hb; exact .inl (.inr hrl)
      · have e8 : (v.kind == 8) = false := by simp [h8]
        have HE : Hid (cntV x v h = if hasK v.kind then cntVs x v.parts h else h) := Lib.hid (by rw [cntV_eq]; simp [h7, h8, h11])
        have HO2 : Hid (hasK v.kind = true → ∀ u, u ∈ v.parts → ofV h.obs.length h.bus.length u = true) := Lib.hid fun hk => by
          have := HO.out
          rw [ofV_eq, if_neg (by omega), if_neg h8, if_pos hk] at this
          exact ofVs_iff.1 this
        clear h7 h8 h11 HO
        obtain ⟨f5, hf5⟩ : ∃ b : Bool, b = (v.kind == 5) := ⟨_, rfl⟩
        obtain ⟨f6, hf6⟩ : ∃ b : Bool, b = (v.kind == 6) := ⟨_, rfl⟩
        obtain ⟨f9, hf9⟩ : ∃ b : Bool, b = (v.kind == 9) := ⟨_, rfl⟩
        obtain ⟨f10, hf10⟩ : ∃ b : Bool, b = (v.kind == 10) := ⟨_, rfl⟩
        have d5 := hf5.symm
        have d6 := hf6.symm
        have d9 := hf9.symm
        have d10 := hf10.symm
        obtain ⟨q46, hq46⟩ : ∃ b : Bool, b = (f5 || (f6 || (f9 || f10))) := ⟨_, rfl⟩
        have HQ := Lib.hid hq46
        have HK : Hid (q46 = hasK v.kind) := Lib.hid (by rw [hq46, hasK_eq, hf5, hf6, hf9, hf10])
        clear hf5 hf6 hf9 hf10 hq46
        go_upto_if 55 with (fail)
        go_cut [55] (fun s46 wx => s46 = .bool q46 ∧ W = wx)
        case first =>
          cases f5 <;> cases f6 <;> cases f9 <;> cases f10
          all_goals
            go_wp2_with fail
            go_meet
            exact ⟨by rw [HQ.out]; rfl, rfl⟩
        case rest =>
          obtain ⟨rfl, rfl⟩ := hcut
          clear d5 d6 d9 d10 HQ
          have HH1 := Lib.hid (HH.out.old hb)
          have HK1 := Lib.hid (Keep.of (C := Cnt G k) hb)
          cases q46 with
          | false =>
            have HF : Hid (cntV x v h = h) := Lib.hid (by rw [HE.out, ← HK.out, if_neg (by simp)])
            go_wp2_with fail
            go_end0
            exact ⟨rfl, by rw [HF.out]; exact HH1.out, HK1.out⟩
          | true =>
            have HF : Hid (cntV x v h = cntVs x v.parts h) := Lib.hid (by rw [HE.out, ← HK.out, if_pos rfl])
            have HOf := Lib.hid (HO2.out HK.out.symm)
            have H0 : Hid (HAt _ G k p (cntVs x (v.parts.take 0) h) oA oc bA bc m lA lc) := Lib.hid (by rw [List.take_zero, cntVs]; exact HH1.out)
            have hsz := hb.size
            clear HE HO2 HH1
            go_upto_region 12 with (fail)
            apply wp_region_lit
            (with_reducible refine wl_k ?_ ?_); exact rfl; intro K hK; go_simp; refine hK _ ?_; clear hK K
            (first | ((with_reducible apply wl_oneG); exact rfl; exact rfl; first | exact vk (by with_reducible assumption) (by with_reducible assumption) | exact vn (by with_reducible assumption) (by with_reducible assumption) | exact vl (by with_reducible assumption) (by with_reducible assumption) | exact vts (by with_reducible assumption) (by with_reducible assumption) | exact vs (by with_reducible assumption) (by with_reducible assumption)) | ((with_reducible apply wl_rowG); exact rfl; exact rfl; first | exact vrow (by with_reducible assumption) (by with_reducible assumption) | exact vt (by with_reducible assumption) (by with_reducible assumption)))
            (with_reducible refine wl_k ?_ ?_); exact rfl; intro K hK; go_simp; refine hK _ ?_; clear hK K
            (with_reducible refine wl_k ?_ ?_); exact rfl; intro K hK; go_simp; refine hK _ ?_; clear hK K
            clear hh hp hb hlq HH
            go_wp2_with fail
            go_loopw [63] (fun i wr => ∃ j : Nat, j ≤ l3 ∧ i = .int .i64 (j : Int) ∧ Hid (HAt wr G k p (cntVs x (v.parts.take j) h) oA oc bA bc m lA lc) ∧ Hid (Keep (Cnt G k) w wr)) (fun i _ => l3 - (intOf i).toNat)
            case atStart => exact ⟨0, by omega, rfl, H0, HK1⟩
            case round =>
              clear H0 HK1 hsz
              obtain ⟨j, hj, rfl, HA, HKe⟩ := hrel
              have hsz := HKe.out.size
              go_upto_region 13 with (fail)
              by_cases hlt : j < l3
              · have hltI : (j : Int) < (l3 : Int) := by omega
                obtain ⟨b2, off2, u, rowu, rfl, -, hu, hua, hrow⟩ := (HR.out.vs.keep HKe.out (fun b hb => Cnt.imm hb)).getB hlt
                have HST := Lib.hid (cntVs_take (by_ := x) hu h)
                have HIU := Lib.hid (HI.out u (List.mem_of_getElem? hu))
                have HOU := Lib.hid (HOf.out u (List.mem_of_getElem? hu))
                have HUA := Lib.hid hua
                have HRU := Lib.hid (hrow wr (Below.refl _ _))
                have hus : rowu.size = 9 := hua.size
                have hu1 : rowu.all (·.oneCell') = true := hua.one
                have hzz := Below.refl wr.heap.size wr
                clear hu hua hrow
                apply wp_region_lit
                (with_reducible refine wl_k ?_ ?_); exact rfl; intro K hK; go_simp; refine hK _ ?_; clear hK K
                go_upto_region 14 with (fail)
                apply wp_region_lit
                (with_reducible refine wl_k ?_ ?_); exact rfl; intro K hK; go_simp; refine hK _ ?_; clear hK K
                ((with_reducible apply wl_rowG); exact rfl; exact rfl; exact HRU.out)
                (with_reducible refine wl_allV ?_); intro W5 q5 hbn hlq5 hq5; replace hzz := hzz.trans (hbn.mono hzz.size); clear hbn; simp only [put_lit, List.set_cons_zero, List.set_cons_succ]
                (with_reducible refine wl_putV hus hu1 rfl rfl rfl hq5 ?_); rw [put_noneA]; intro W6 hbx hsz hkx hnx; replace hzz := hbx _ _ (by omega) hzz; clear hq5; have hq5 := hnx; clear hnx
                have hz2 := hzz.size
                clear hbx hkx hsz hus hu1
                obtain ⟨e1, e2, -, -⟩ := cntVs_same x (v.parts.take j) h
                have HC := Lib.hid (HIU.out (cntVs x (v.parts.take j) h) W6 _ _ _ _ _ _ _ _ (HUA.out.old hzz) (HA.out.old hzz) (HFr.out.on (by omega)) (by rw [e1, e2]; exact HOU.out))
                obtain ⟨tr5, A5, l5, c5, A6, l6, c6, hru⟩ := HUA.out.row
                have HRV := Lib.hid hru
                clear hru
                go_upto_region 15 with (fail)
                apply wp_region_lit
                (with_reducible refine wl_k ?_ ?_); exact rfl; intro K hK; go_simp; refine hK _ ?_; clear hK K
                (first | ((with_reducible apply wl_oneG); exact rfl; exact rfl; first | exact vk (by with_reducible assumption) (by with_reducible assumption) | exact vn (by with_reducible assumption) (by with_reducible assumption) | exact vl (by with_reducible assumption) (by with_reducible assumption) | exact vts (by with_reducible assumption) (by with_reducible assumption) | exact vs (by with_reducible assumption) (by with_reducible assumption)) | ((with_reducible apply wl_rowG); exact rfl; exact rfl; first | exact vrow (by with_reducible assumption) (by with_reducible assumption) | exact vt (by with_reducible assumption) (by with_reducible assumption)))
                (with_reducible refine wl_k ?_ ?_); exact rfl; intro K hK; go_simp; refine hK _ ?_; clear hK K
                (with_reducible refine wl_ck ?_ ?_); exact rfl; intro K hK; go_simp; refine ⟨_, _, ⟨rfl, rfl⟩, hK _ _ ⟨_, HC.out, ?_⟩⟩; clear hK K; rintro e w7 ⟨rfl, ha7, hk7⟩; refine ⟨_, rfl, ?_⟩; simp only [put_lit, List.set_cons_zero, List.set_cons_succ]
                have HA7 := Lib.hid ha7
                have HK7 := Lib.hid ((HKe.out.trans (C' := Cnt G k) (fun b h => .inl h) (Keep.of hzz)).trans (C' := Cnt G k) (fun b h => .inl h) hk7)
                clear ha7 hk7
                rw [← HST.out] at HA7
                clear HC HRV HST HA HKe hq5 hzz
                go_wp2_with fail
                go_roundw
                case rel => exact ⟨j + 1, by omega, by go_num, HA7, HK7⟩
                case measure => simp [intOf]; omega
              · have hltI : ¬ (j : Int) < (l3 : Int) := by omega
                have HF2 : Hid (cntVs x (v.parts.take j) h = cntV x v h) := Lib.hid (by rw [HF.out, List.take_of_length_le (by rw [HL3.out]; omega)])
                apply wp_region_lit
                (with_reducible refine wl_k ?_ ?_); exact rfl; intro K hK; go_simp; refine hK _ ?_; clear hK K
                go_wp2_with fail
                go_end0
                exact ⟨rfl, by rw [← HF2.out]; exact HA.out, HKe.out⟩
end Go.Proofs.Ytpamocglecangaa
namespace Go.Proofs.Ytpamocglecangaa
open Go.RowKit Go.Proofs.Ytpamocglecangaa.Nm
set_option linter.unusedSimpArgs false
theorem res35 {fn : Func} {p : Tmp} (h : fn.results = #[.cell p 35]) (tmps : Array Value) (w : World) (g : Nat) (hp : tmps.getD p undef = .pointer (some ⟨g, 0, none⟩)) {row : Array Value} (hs : row.size = 9) (hg : w.heap[g]? = some (.cells row 35 (0, 0))) : (results fn tmps).run Try.prog w = .ok (.agg row) w := by
  have hp' : tmps[p]?.getD undef = .pointer (some ⟨g, 0, none⟩) := by simpa using hp
  have l1 : (loadVar 35 ⟨g, 0, none⟩).run Try.prog w = .ok (.agg row) w := by
    have : RowAt w 35 ⟨g, 0, none⟩ row := row_mid (n := 9) hg (by simp [← hs]) u35 rfl hs info35
    unfold RowAt at this; exact this
  unfold results
  simp [h, hp', asAddr, l1, Result.andThen]
theorem res35t {fn : Func} {p q : Tmp} (h : fn.results = #[.cell p 35, .tmp q]) (tmps : Array Value) (w : World) (g : Nat) (hp : tmps.getD p undef = .pointer (some ⟨g, 0, none⟩)) {row : Array Value} {x : Value} (hq : tmps.getD q undef = x) (hs : row.size = 9) (hg : w.heap[g]? = some (.cells row 35 (0, 0))) : (results fn tmps).run Try.prog w = .ok (.tuple #[.agg row, x]) w := by
  have hp' : tmps[p]?.getD undef = .pointer (some ⟨g, 0, none⟩) := by simpa using hp
  have hq' : tmps[q]?.getD undef = x := by simpa using hq
  have l1 : (loadVar 35 ⟨g, 0, none⟩).run Try.prog w = .ok (.agg row) w := by
    have : RowAt w 35 ⟨g, 0, none⟩ row := row_mid (n := 9) hg (by simp [← hs]) u35 rfl hs info35
    unfold RowAt at this; exact this
  unfold results
  simp [h, hp', hq', asAddr, l1, Result.andThen]
theorem res35tt {fn : Func} {p q r : Tmp} (h : fn.results = #[.cell p 35, .tmp q, .tmp r]) (tmps : Array Value) (w : World) (g : Nat) (hp : tmps.getD p undef = .pointer (some ⟨g, 0, none⟩)) {row : Array Value} {x y : Value} (hq : tmps.getD q undef = x) (hr : tmps.getD r undef = y) (hs : row.size = 9) (hg : w.heap[g]? = some (.cells row 35 (0, 0))) : (results fn tmps).run Try.prog w = .ok (.tuple #[.agg row, x, y]) w := by
  have hp' : tmps[p]?.getD undef = .pointer (some ⟨g, 0, none⟩) := by simpa using hp
  have hq' : tmps[q]?.getD undef = x := by simpa using hq
  have hr' : tmps[r]?.getD undef = y := by simpa using hr
  have l1 : (loadVar 35 ⟨g, 0, none⟩).run Try.prog w = .ok (.agg row) w := by
    have : RowAt w 35 ⟨g, 0, none⟩ row := row_mid (n := 9) hg (by simp [← hs]) u35 rfl hs info35
    unfold RowAt at this; exact this
  unfold results
  simp [h, hp', hq', hr', asAddr, l1, Result.andThen]
def arrV (nb : Nat) (v : Va) : Bool := decide (v.kind = 8 ∧ 0 ≤ v.num ∧ v.num < (nb : Int))
set_option maxHeartbeats 4000000 in
set_option maxRecDepth 100000 in
theorem array_any {p no nb : Nat} (hno : no ≤ maxLen) (hnb : nb ≤ maxLen) {v : Va} {w : World} {D : Nat → Prop} {row : Array Value} (hv : VAt w D v row) (hh : Hdr w p no nb) :
    Calls Try.prog 78 #[.pointer (some ⟨p, 0, none⟩), .agg row] w fun e w' => e = .returned (.bool (arrV nb v)) ∧ Below w.heap.size w w' := by
  obtain ⟨tr, A2, l2, c2, A3, l3, c3, hr⟩ := hv.row
  have HR := Lib.hid hr
  have HO := Lib.hid (of_any p no nb hno hnb v)
  have HV := Lib.hid hv
  have hb := Below.refl w.heap.size w
  obtain ⟨oA, oc, bA, bc, m, lA, ll, lc, hh⟩ := hh
  clear hv hr hno hnb
  go_enter Try.func78, Try.ntmps78
  go_upto_region 0 with (fail)
  apply wp_region_lit
  have lthhq := heap_lt hh; (with_reducible refine wl_boxV rfl ?_); intro W q hbn hlq hq; replace hh := below_look hbn hh; replace hb := hb.trans (hbn.mono hb.size); clear hbn; simp only [put_lit, List.set_cons_zero, List.set_cons_succ]
  (with_reducible refine wl_k ?_ ?_); exact rfl; intro K hK; go_simp; refine hK _ ?_; clear hK K
  have hp := hq
  clear hq
  have HC := Lib.hid (HO.out W D row (HV.out.old hb) ⟨_, _, _, _, _, _, _, _, hh⟩)
  clear HO
  by_cases h8 : v.kind = 8
  · have e8 : (v.kind == 8) = true := by simp [h8]
    have HD : Hid (ofV no nb v = arrV nb v) := Lib.hid (by rw [ofV_eq, if_neg (by omega), if_pos h8]; simp [arrV, h8])
    clear h8
    go_upto_region 1 with (fail)
    apply wp_region_lit
    (with_reducible refine wl_k ?_ ?_); exact rfl; intro K hK; go_simp; refine hK _ ?_; clear hK K
    (with_reducible refine wl_k ?_ ?_); exact rfl; intro K hK; go_simp; refine hK _ ?_; clear hK K
    (with_reducible refine wl_k ?_ ?_); exact rfl; intro K hK; go_simp; refine hK _ ?_; clear hK K
    (with_reducible refine wl_k ?_ ?_); exact rfl; intro K hK; go_simp; refine hK _ ?_; clear hK K
    (first | ((with_reducible apply wl_oneG); exact rfl; exact rfl; first | exact vk (by with_reducible assumption) (by with_reducible assumption) | exact vn (by with_reducible assumption) (by with_reducible assumption) | exact vl (by with_reducible assumption) (by with_reducible assumption) | exact vts (by with_reducible assumption) (by with_reducible assumption) | exact vs (by with_reducible assumption) (by with_reducible assumption)) | ((with_reducible apply wl_rowG); exact rfl; exact rfl; first | exact vrow (by with_reducible assumption) (by with_reducible assumption) | exact vt (by with_reducible assumption) (by with_reducible assumption)))
    (with_reducible refine wl_k ?_ ?_); exact rfl; intro K hK; go_simp; refine hK _ ?_; clear hK K
    (with_reducible refine wl_k ?_ ?_); exact rfl; intro K hK; go_simp; refine hK _ ?_; clear hK K
    (with_reducible refine wl_k ?_ ?_); exact rfl; intro K hK; go_simp; refine hK _ ?_; clear hK K
    (with_reducible refine wl_k ?_ ?_); exact rfl; intro K hK; go_simp; refine hK _ ?_; clear hK K
    (first | ((with_reducible apply wl_oneG); exact rfl; exact rfl; first | exact vk (by with_reducible assumption) (by with_reducible assumption) | exact vn (by with_reducible assumption) (by with_reducible assumption) | exact vl (by with_reducible assumption) (by with_reducible assumption) | exact vts (by with_reducible assumption) (by with_reducible assumption) | exact vs (by with_reducible assumption) (by with_reducible assumption)) | ((with_reducible apply wl_rowG); exact rfl; exact rfl; first | exact vrow (by with_reducible assumption) (by with_reducible assumption) | exact vt (by with_reducible assumption) (by with_reducible assumption)))
    (with_reducible refine wl_ck ?_ ?_); exact rfl; intro K hK; go_simp; refine ⟨_, _, ⟨rfl, rfl⟩, hK _ _ ⟨_, HC.out, ?_⟩⟩; clear hK K; rintro e w7 ⟨rfl, hb7⟩; refine ⟨_, rfl, ?_⟩; simp only [put_lit, List.set_cons_zero, List.set_cons_succ]
    (with_reducible refine wl_k ?_ ?_); exact rfl; intro K hK; go_simp; refine hK _ ?_; clear hK K
    (with_reducible refine wl_k ?_ ?_); exact rfl; intro K hK; go_simp; refine hK _ ?_; clear hK K
    replace hb := hb.trans (hb7.mono hb.size)
    clear hb7 HC hh hp
    go_wp2_with fail
    go_ret
    exact ⟨by rw [← HD.out]; rfl, hb⟩
  · have e8 : (v.kind == 8) = false := by simp [h8]
    have HD : Hid (false = arrV nb v) := Lib.hid (by simp [arrV, h8])
    clear h8
    go_upto_region 1 with (fail)
    apply wp_region_lit
    (with_reducible refine wl_k ?_ ?_); exact rfl; intro K hK; go_simp; refine hK _ ?_; clear hK K
    (with_reducible refine wl_k ?_ ?_); exact rfl; intro K hK; go_simp; refine hK _ ?_; clear hK K
    (with_reducible refine wl_k ?_ ?_); exact rfl; intro K hK; go_simp; refine hK _ ?_; clear hK K
    (with_reducible refine wl_k ?_ ?_); exact rfl; intro K hK; go_simp; refine hK _ ?_; clear hK K
    (first | ((with_reducible apply wl_oneG); exact rfl; exact rfl; first | exact vk (by with_reducible assumption) (by with_reducible assumption) | exact vn (by with_reducible assumption) (by with_reducible assumption) | exact vl (by with_reducible assumption) (by with_reducible assumption) | exact vts (by with_reducible assumption) (by with_reducible assumption) | exact vs (by with_reducible assumption) (by with_reducible assumption)) | ((with_reducible apply wl_rowG); exact rfl; exact rfl; first | exact vrow (by with_reducible assumption) (by with_reducible assumption) | exact vt (by with_reducible assumption) (by with_reducible assumption)))
    (with_reducible refine wl_k ?_ ?_); exact rfl; intro K hK; go_simp; refine hK _ ?_; clear hK K
    (with_reducible refine wl_k ?_ ?_); exact rfl; intro K hK; go_simp; refine hK _ ?_; clear hK K
    (with_reducible refine wl_k ?_ ?_); exact rfl; intro K hK; go_simp; refine hK _ ?_; clear hK K
    (first | ((with_reducible refine wl_skipU ?_ ?_ ?_); exact rfl; exact rfl) | ((with_reducible refine wl_skip ?_ ?_); exact rfl; simp only [put_lit, List.set_cons_zero, List.set_cons_succ]))
    (first | ((with_reducible refine wl_skipU ?_ ?_ ?_); exact rfl; exact rfl) | ((with_reducible refine wl_skip ?_ ?_); exact rfl; simp only [put_lit, List.set_cons_zero, List.set_cons_succ]))
    (first | ((with_reducible refine wl_skipU ?_ ?_ ?_); exact rfl; exact rfl) | ((with_reducible refine wl_skip ?_ ?_); exact rfl; simp only [put_lit, List.set_cons_zero, List.set_cons_succ]))
    (with_reducible refine wl_k ?_ ?_); exact rfl; intro K hK; go_simp; refine hK _ ?_; clear hK K
    (with_reducible refine wl_k ?_ ?_); exact rfl; intro K hK; go_simp; refine hK _ ?_; clear hK K
    clear HC hh hp
    go_wp2_with fail
    go_ret
    exact ⟨by rw [← HD.out]; rfl, hb⟩
def placeE (h : Hp) (o f : Int) : Int := match (if 0 ≤ o then h.obs[o.toNat]? else none) with | none => 1 | some ob => if 0 ≤ f ∧ f < (ob.fields.length : Int) then (if ob.state = 3 then 141 else 0) else 1
set_option maxHeartbeats 4000000 in
set_option maxRecDepth 100000 in
theorem place_any {G : Gh} {k p : Nat} {h : Hp} {w : World} {oA : Option Addr} {oc : Nat} {bA : Option Addr} {bc m : Nat} {lA : Option Addr} {lc : Nat} (hh : HAt w G k p h oA oc bA bc m lA lc) (o f : Int) (ho : (Lit.int .i64 o).wf = true) (hf : (Lit.int .i64 f).wf = true) :
    Calls Try.prog 77 #[.pointer (some ⟨p, 0, none⟩), .int .i64 o, .int .i64 f] w fun e w' => e = .returned (.int .i64 (placeE h o f)) ∧ Below w.heap.size w w' := by
  have hb := Below.refl w.heap.size w
  have hp := hh.blk
  have HH := Lib.hid hh
  clear hh ho hf
  go_enter Try.func77, Try.ntmps77
  go_upto_region 0 with (fail)
  apply wp_region_lit
  (with_reducible refine wl_k ?_ ?_); exact rfl; intro K hK; go_simp; refine hK _ ?_; clear hK K
  by_cases h1 : 0 ≤ o
  · obtain ⟨n, rfl⟩ : ∃ n : Nat, o = (n : Int) := ⟨o.toNat, by omega⟩
    have h1I : ¬ (n : Int) < 0 := by omega
    by_cases h2 : n < h.obs.length
    · have h2I : ¬ (n : Int) ≥ (h.obs.length : Int) := by omega
      have h2J : (n : Int) < (h.obs.length : Int) := by omega
      have ho := List.getElem?_eq_getElem h2
      obtain ⟨ob, hoe⟩ : ∃ ob, ob = h.obs[n] := ⟨_, rfl⟩
      rw [← hoe] at ho
      obtain ⟨g, rows, rfl, hR⟩ := HH.out.obs.rows ho
      obtain ⟨tr0, fA, fc, hL, -, -⟩ := hR.loads ho
      have HL := Lib.hid hL
      have HL0 := Lib.hid (hL w (Below.refl _ _))
      have HE : Hid (placeE h (n : Int) f = if 0 ≤ f ∧ f < (ob.fields.length : Int) then (if ob.state = 3 then 141 else 0) else 1) := Lib.hid (by simp [placeE, ho])
      clear hL hR hoe HH ho
      by_cases h3 : 0 ≤ f
      · have h3I : ¬ f < 0 := by omega
        by_cases h4 : f < (ob.fields.length : Int)
        · have h4I : ¬ f ≥ (ob.fields.length : Int) := by omega
          have HE2 : Hid (placeE h (n : Int) f = if ob.state = 3 then 141 else 0) := Lib.hid (by rw [HE.out, if_pos ⟨h3, h4⟩])
          clear h3 h4 HE h1
          go_upto_region 1 with (fail)
          apply wp_region_lit
          (with_reducible refine wl_k ?_ ?_); exact rfl; intro K hK; go_simp; refine hK _ ?_; clear hK K
          (with_reducible refine wl_k ?_ ?_); exact rfl; intro K hK; go_simp; refine hK _ ?_; clear hK K
          (with_reducible refine wl_k ?_ ?_); exact rfl; intro K hK; go_simp; refine hK _ ?_; clear hK K
          (with_reducible refine wl_k ?_ ?_); exact rfl; intro K hK; go_simp; refine hK _ ?_; clear hK K
          (with_reducible refine wl_k ?_ ?_); exact rfl; intro K hK; go_simp; refine hK _ ?_; clear hK K
          (with_reducible refine wl_k ?_ ?_); exact rfl; intro K hK; go_simp; refine hK _ ?_; clear hK K
          (with_reducible refine wl_k ?_ ?_); exact rfl; intro K hK; go_simp; refine hK _ ?_; clear hK K
          (first | ((with_reducible apply wl_oneG); exact rfl; exact rfl; first | exact h0 (by with_reducible assumption) | exact h1 (by with_reducible assumption) | exact h2 (by with_reducible assumption) | exact h3 (by with_reducible assumption)))
          (with_reducible refine wl_k ?_ ?_); exact rfl; intro K hK; go_simp; refine hK _ ?_; clear hK K
          (with_reducible refine wl_k ?_ ?_); exact rfl; intro K hK; go_simp; refine hK _ ?_; clear hK K
          (with_reducible refine wl_k ?_ ?_); exact rfl; intro K hK; go_simp; refine hK _ ?_; clear hK K
          (with_reducible refine wl_k ?_ ?_); exact rfl; intro K hK; go_simp; refine hK _ ?_; clear hK K
          (with_reducible refine wl_k ?_ ?_); exact rfl; intro K hK; go_simp; refine hK _ ?_; clear hK K
          (with_reducible refine wl_k ?_ ?_); exact rfl; intro K hK; go_simp; refine hK _ ?_; clear hK K
          (with_reducible refine wl_k ?_ ?_); exact rfl; intro K hK; go_simp; refine hK _ ?_; clear hK K
          (with_reducible refine wl_k ?_ ?_); exact rfl; intro K hK; go_simp; refine hK _ ?_; clear hK K
          (with_reducible refine wl_k ?_ ?_); exact rfl; intro K hK; go_simp; refine hK _ ?_; clear hK K
          (with_reducible refine wl_k ?_ ?_); exact rfl; intro K hK; go_simp; refine hK _ ?_; clear hK K
          (with_reducible refine wl_k ?_ ?_); exact rfl; intro K hK; go_simp; refine hK _ ?_; clear hK K
          (with_reducible refine wl_k ?_ ?_); exact rfl; intro K hK; go_simp; refine hK _ ?_; clear hK K
          (first | ((with_reducible apply wl_oneG); exact rfl; exact rfl; first | exact h0 (by with_reducible assumption) | exact h1 (by with_reducible assumption) | exact h2 (by with_reducible assumption) | exact h3 (by with_reducible assumption)))
          (with_reducible refine wl_k ?_ ?_); exact rfl; intro K hK; go_simp; refine hK _ ?_; clear hK K
          (with_reducible refine wl_k ?_ ?_); exact rfl; intro K hK; go_simp; refine hK _ ?_; clear hK K
          (with_reducible refine wl_k ?_ ?_); exact rfl; intro K hK; go_simp; refine hK _ ?_; clear hK K
          ((with_reducible apply wl_oneG); exact rfl; exact rfl; exact HL0.out.f)
          (with_reducible refine wl_k ?_ ?_); exact rfl; intro K hK; go_simp; refine hK _ ?_; clear hK K
          (with_reducible refine wl_k ?_ ?_); exact rfl; intro K hK; go_simp; refine hK _ ?_; clear hK K
          (with_reducible refine wl_k ?_ ?_); exact rfl; intro K hK; go_simp; refine hK _ ?_; clear hK K
          (with_reducible refine wl_k ?_ ?_); exact rfl; intro K hK; go_simp; refine hK _ ?_; clear hK K
          go_upto_region 3 with (fail)
          apply wp_region_lit
          (with_reducible refine wl_k ?_ ?_); exact rfl; intro K hK; go_simp; refine hK _ ?_; clear hK K
          (with_reducible refine wl_k ?_ ?_); exact rfl; intro K hK; go_simp; refine hK _ ?_; clear hK K
          (with_reducible refine wl_k ?_ ?_); exact rfl; intro K hK; go_simp; refine hK _ ?_; clear hK K
          (first | ((with_reducible apply wl_oneG); exact rfl; exact rfl; first | exact h0 (by with_reducible assumption) | exact h1 (by with_reducible assumption) | exact h2 (by with_reducible assumption) | exact h3 (by with_reducible assumption)))
          (with_reducible refine wl_k ?_ ?_); exact rfl; intro K hK; go_simp; refine hK _ ?_; clear hK K
          (with_reducible refine wl_k ?_ ?_); exact rfl; intro K hK; go_simp; refine hK _ ?_; clear hK K
          (with_reducible refine wl_k ?_ ?_); exact rfl; intro K hK; go_simp; refine hK _ ?_; clear hK K
          ((with_reducible apply wl_oneG); exact rfl; exact rfl; exact HL0.out.s)
          (with_reducible refine wl_k ?_ ?_); exact rfl; intro K hK; go_simp; refine hK _ ?_; clear hK K
          (with_reducible refine wl_k ?_ ?_); exact rfl; intro K hK; go_simp; refine hK _ ?_; clear hK K
          clear HL HL0 hp
          by_cases h5 : ob.state = 3
          · have e5 : (ob.state == 3) = true := by simp [h5]
            rw [if_pos h5] at HE2
            clear h5
            go_upto_region 4 with (fail)
            apply wp_region_lit
            (with_reducible refine wl_k ?_ ?_); exact rfl; intro K hK; go_simp; refine hK _ ?_; clear hK K
            go_wp2_with fail
            go_ret
            exact ⟨by rw [HE2.out]; rfl, hb⟩
          · have e5 : (ob.state == 3) = false := by simp [h5]
            rw [if_neg h5] at HE2
            clear h5
            go_upto_region 5 with (fail)
            apply wp_region_lit
            (with_reducible refine wl_k ?_ ?_); exact rfl; intro K hK; go_simp; refine hK _ ?_; clear hK K
            go_wp2_with fail
            go_ret
            exact ⟨by rw [HE2.out]; rfl, hb⟩
        · have h4I : f ≥ (ob.fields.length : Int) := by omega
          have HE2 : Hid (placeE h (n : Int) f = 1) := Lib.hid (by rw [HE.out, if_neg (fun c => h4 c.2)])
          clear h3 h4 HE h1
          go_upto_region 1 with (fail)
          apply wp_region_lit
          (with_reducible refine wl_k ?_ ?_); exact rfl; intro K hK; go_simp; refine hK _ ?_; clear hK K
          (with_reducible refine wl_k ?_ ?_); exact rfl; intro K hK; go_simp; refine hK _ ?_; clear hK K
          (with_reducible refine wl_k ?_ ?_); exact rfl; intro K hK; go_simp; refine hK _ ?_; clear hK K
          (with_reducible refine wl_k ?_ ?_); exact rfl; intro K hK; go_simp; refine hK _ ?_; clear hK K
          (with_reducible refine wl_k ?_ ?_); exact rfl; intro K hK; go_simp; refine hK _ ?_; clear hK K
          (with_reducible refine wl_k ?_ ?_); exact rfl; intro K hK; go_simp; refine hK _ ?_; clear hK K
          (with_reducible refine wl_k ?_ ?_); exact rfl; intro K hK; go_simp; refine hK _ ?_; clear hK K
          (first | ((with_reducible apply wl_oneG); exact rfl; exact rfl; first | exact h0 (by with_reducible assumption) | exact h1 (by with_reducible assumption) | exact h2 (by with_reducible assumption) | exact h3 (by with_reducible assumption)))
          (with_reducible refine wl_k ?_ ?_); exact rfl; intro K hK; go_simp; refine hK _ ?_; clear hK K
          (with_reducible refine wl_k ?_ ?_); exact rfl; intro K hK; go_simp; refine hK _ ?_; clear hK K
          (with_reducible refine wl_k ?_ ?_); exact rfl; intro K hK; go_simp; refine hK _ ?_; clear hK K
          (with_reducible refine wl_k ?_ ?_); exact rfl; intro K hK; go_simp; refine hK _ ?_; clear hK K
          (with_reducible refine wl_k ?_ ?_); exact rfl; intro K hK; go_simp; refine hK _ ?_; clear hK K
          (with_reducible refine wl_k ?_ ?_); exact rfl; intro K hK; go_simp; refine hK _ ?_; clear hK K
          (with_reducible refine wl_k ?_ ?_); exact rfl; intro K hK; go_simp; refine hK _ ?_; clear hK K
          (with_reducible refine wl_k ?_ ?_); exact rfl; intro K hK; go_simp; refine hK _ ?_; clear hK K
          (with_reducible refine wl_k ?_ ?_); exact rfl; intro K hK; go_simp; refine hK _ ?_; clear hK K
          (with_reducible refine wl_k ?_ ?_); exact rfl; intro K hK; go_simp; refine hK _ ?_; clear hK K
          (with_reducible refine wl_k ?_ ?_); exact rfl; intro K hK; go_simp; refine hK _ ?_; clear hK K
          (with_reducible refine wl_k ?_ ?_); exact rfl; intro K hK; go_simp; refine hK _ ?_; clear hK K
          (first | ((with_reducible apply wl_oneG); exact rfl; exact rfl; first | exact h0 (by with_reducible assumption) | exact h1 (by with_reducible assumption) | exact h2 (by with_reducible assumption) | exact h3 (by with_reducible assumption)))
          (with_reducible refine wl_k ?_ ?_); exact rfl; intro K hK; go_simp; refine hK _ ?_; clear hK K
          (with_reducible refine wl_k ?_ ?_); exact rfl; intro K hK; go_simp; refine hK _ ?_; clear hK K
          (with_reducible refine wl_k ?_ ?_); exact rfl; intro K hK; go_simp; refine hK _ ?_; clear hK K
          ((with_reducible apply wl_oneG); exact rfl; exact rfl; exact HL0.out.f)
          (with_reducible refine wl_k ?_ ?_); exact rfl; intro K hK; go_simp; refine hK _ ?_; clear hK K
          (with_reducible refine wl_k ?_ ?_); exact rfl; intro K hK; go_simp; refine hK _ ?_; clear hK K
          (with_reducible refine wl_k ?_ ?_); exact rfl; intro K hK; go_simp; refine hK _ ?_; clear hK K
          (with_reducible refine wl_k ?_ ?_); exact rfl; intro K hK; go_simp; refine hK _ ?_; clear hK K
          clear HL HL0 hp
          go_upto_region 2 with (fail)
          apply wp_region_lit
          (with_reducible refine wl_k ?_ ?_); exact rfl; intro K hK; go_simp; refine hK _ ?_; clear hK K
          go_wp2_with fail
          go_ret
          exact ⟨by rw [HE2.out]; rfl, hb⟩
      · have h3I : f < 0 := by omega
        have HE2 : Hid (placeE h (n : Int) f = 1) := Lib.hid (by rw [HE.out, if_neg (fun c => h3 c.1)])
        clear h3 HE h1
        go_upto_region 1 with (fail)
        apply wp_region_lit
        (with_reducible refine wl_k ?_ ?_); exact rfl; intro K hK; go_simp; refine hK _ ?_; clear hK K
        (with_reducible refine wl_k ?_ ?_); exact rfl; intro K hK; go_simp; refine hK _ ?_; clear hK K
        (with_reducible refine wl_k ?_ ?_); exact rfl; intro K hK; go_simp; refine hK _ ?_; clear hK K
        (with_reducible refine wl_k ?_ ?_); exact rfl; intro K hK; go_simp; refine hK _ ?_; clear hK K
        (with_reducible refine wl_k ?_ ?_); exact rfl; intro K hK; go_simp; refine hK _ ?_; clear hK K
        (with_reducible refine wl_k ?_ ?_); exact rfl; intro K hK; go_simp; refine hK _ ?_; clear hK K
        (with_reducible refine wl_k ?_ ?_); exact rfl; intro K hK; go_simp; refine hK _ ?_; clear hK K
        (first | ((with_reducible apply wl_oneG); exact rfl; exact rfl; first | exact h0 (by with_reducible assumption) | exact h1 (by with_reducible assumption) | exact h2 (by with_reducible assumption) | exact h3 (by with_reducible assumption)))
        (with_reducible refine wl_k ?_ ?_); exact rfl; intro K hK; go_simp; refine hK _ ?_; clear hK K
        (with_reducible refine wl_k ?_ ?_); exact rfl; intro K hK; go_simp; refine hK _ ?_; clear hK K
        (with_reducible refine wl_k ?_ ?_); exact rfl; intro K hK; go_simp; refine hK _ ?_; clear hK K
        (with_reducible refine wl_k ?_ ?_); exact rfl; intro K hK; go_simp; refine hK _ ?_; clear hK K
        (with_reducible refine wl_k ?_ ?_); exact rfl; intro K hK; go_simp; refine hK _ ?_; clear hK K
        (with_reducible refine wl_k ?_ ?_); exact rfl; intro K hK; go_simp; refine hK _ ?_; clear hK K
        (with_reducible refine wl_k ?_ ?_); exact rfl; intro K hK; go_simp; refine hK _ ?_; clear hK K
        (with_reducible refine wl_k ?_ ?_); exact rfl; intro K hK; go_simp; refine hK _ ?_; clear hK K
        (first | ((with_reducible refine wl_skipU ?_ ?_ ?_); exact rfl; exact rfl) | ((with_reducible refine wl_skip ?_ ?_); exact rfl; simp only [put_lit, List.set_cons_zero, List.set_cons_succ]))
        (first | ((with_reducible refine wl_skipU ?_ ?_ ?_); exact rfl; exact rfl) | ((with_reducible refine wl_skip ?_ ?_); exact rfl; simp only [put_lit, List.set_cons_zero, List.set_cons_succ]))
        (first | ((with_reducible refine wl_skipU ?_ ?_ ?_); exact rfl; exact rfl) | ((with_reducible refine wl_skip ?_ ?_); exact rfl; simp only [put_lit, List.set_cons_zero, List.set_cons_succ]))
        (first | ((with_reducible refine wl_skipU ?_ ?_ ?_); exact rfl; exact rfl) | ((with_reducible refine wl_skip ?_ ?_); exact rfl; simp only [put_lit, List.set_cons_zero, List.set_cons_succ]))
        (first | ((with_reducible refine wl_skipU ?_ ?_ ?_); exact rfl; exact rfl) | ((with_reducible refine wl_skip ?_ ?_); exact rfl; simp only [put_lit, List.set_cons_zero, List.set_cons_succ]))
        (first | ((with_reducible refine wl_skipU ?_ ?_ ?_); exact rfl; exact rfl) | ((with_reducible refine wl_skip ?_ ?_); exact rfl; simp only [put_lit, List.set_cons_zero, List.set_cons_succ]))
        (first | ((with_reducible refine wl_skipU ?_ ?_ ?_); exact rfl; exact rfl) | ((with_reducible refine wl_skip ?_ ?_); exact rfl; simp only [put_lit, List.set_cons_zero, List.set_cons_succ]))
        (first | ((with_reducible refine wl_skipU ?_ ?_ ?_); exact rfl; exact rfl) | ((with_reducible refine wl_skip ?_ ?_); exact rfl; simp only [put_lit, List.set_cons_zero, List.set_cons_succ]))
        (first | ((with_reducible refine wl_skipU ?_ ?_ ?_); exact rfl; exact rfl) | ((with_reducible refine wl_skip ?_ ?_); exact rfl; simp only [put_lit, List.set_cons_zero, List.set_cons_succ]))
        (first | ((with_reducible refine wl_skipU ?_ ?_ ?_); exact rfl; exact rfl) | ((with_reducible refine wl_skip ?_ ?_); exact rfl; simp only [put_lit, List.set_cons_zero, List.set_cons_succ]))
        (first | ((with_reducible refine wl_skipU ?_ ?_ ?_); exact rfl; exact rfl) | ((with_reducible refine wl_skip ?_ ?_); exact rfl; simp only [put_lit, List.set_cons_zero, List.set_cons_succ]))
        (with_reducible refine wl_k ?_ ?_); exact rfl; intro K hK; go_simp; refine hK _ ?_; clear hK K
        (with_reducible refine wl_k ?_ ?_); exact rfl; intro K hK; go_simp; refine hK _ ?_; clear hK K
        clear HL HL0 hp
        go_upto_region 2 with (fail)
        apply wp_region_lit
        (with_reducible refine wl_k ?_ ?_); exact rfl; intro K hK; go_simp; refine hK _ ?_; clear hK K
        go_wp2_with fail
        go_ret
        exact ⟨by rw [HE2.out]; rfl, hb⟩
    · have h2I : (n : Int) ≥ (h.obs.length : Int) := by omega
      have HE2 : Hid (placeE h (n : Int) f = 1) := Lib.hid (by simp [placeE, List.getElem?_eq_none (by omega : h.obs.length ≤ n)])
      clear h1 HH
      go_upto_region 1 with (fail)
      apply wp_region_lit
      (with_reducible refine wl_k ?_ ?_); exact rfl; intro K hK; go_simp; refine hK _ ?_; clear hK K
      (with_reducible refine wl_k ?_ ?_); exact rfl; intro K hK; go_simp; refine hK _ ?_; clear hK K
      (with_reducible refine wl_k ?_ ?_); exact rfl; intro K hK; go_simp; refine hK _ ?_; clear hK K
      (with_reducible refine wl_k ?_ ?_); exact rfl; intro K hK; go_simp; refine hK _ ?_; clear hK K
      (with_reducible refine wl_k ?_ ?_); exact rfl; intro K hK; go_simp; refine hK _ ?_; clear hK K
      (with_reducible refine wl_k ?_ ?_); exact rfl; intro K hK; go_simp; refine hK _ ?_; clear hK K
      (with_reducible refine wl_k ?_ ?_); exact rfl; intro K hK; go_simp; refine hK _ ?_; clear hK K
      (first | ((with_reducible apply wl_oneG); exact rfl; exact rfl; first | exact h0 (by with_reducible assumption) | exact h1 (by with_reducible assumption) | exact h2 (by with_reducible assumption) | exact h3 (by with_reducible assumption)))
      (with_reducible refine wl_k ?_ ?_); exact rfl; intro K hK; go_simp; refine hK _ ?_; clear hK K
      (with_reducible refine wl_k ?_ ?_); exact rfl; intro K hK; go_simp; refine hK _ ?_; clear hK K
      (with_reducible refine wl_k ?_ ?_); exact rfl; intro K hK; go_simp; refine hK _ ?_; clear hK K
      (with_reducible refine wl_k ?_ ?_); exact rfl; intro K hK; go_simp; refine hK _ ?_; clear hK K
      (first | ((with_reducible refine wl_skipU ?_ ?_ ?_); exact rfl; exact rfl) | ((with_reducible refine wl_skip ?_ ?_); exact rfl; simp only [put_lit, List.set_cons_zero, List.set_cons_succ]))
      (first | ((with_reducible refine wl_skipU ?_ ?_ ?_); exact rfl; exact rfl) | ((with_reducible refine wl_skip ?_ ?_); exact rfl; simp only [put_lit, List.set_cons_zero, List.set_cons_succ]))
      (with_reducible refine wl_k ?_ ?_); exact rfl; intro K hK; go_simp; refine hK _ ?_; clear hK K
      (with_reducible refine wl_k ?_ ?_); exact rfl; intro K hK; go_simp; refine hK _ ?_; clear hK K
      (first | ((with_reducible refine wl_skipU ?_ ?_ ?_); exact rfl; exact rfl) | ((with_reducible refine wl_skip ?_ ?_); exact rfl; simp only [put_lit, List.set_cons_zero, List.set_cons_succ]))
      (first | ((with_reducible refine wl_skipU ?_ ?_ ?_); exact rfl; exact rfl) | ((with_reducible refine wl_skip ?_ ?_); exact rfl; simp only [put_lit, List.set_cons_zero, List.set_cons_succ]))
      (first | ((with_reducible refine wl_skipU ?_ ?_ ?_); exact rfl; exact rfl) | ((with_reducible refine wl_skip ?_ ?_); exact rfl; simp only [put_lit, List.set_cons_zero, List.set_cons_succ]))
      (first | ((with_reducible refine wl_skipU ?_ ?_ ?_); exact rfl; exact rfl) | ((with_reducible refine wl_skip ?_ ?_); exact rfl; simp only [put_lit, List.set_cons_zero, List.set_cons_succ]))
      (first | ((with_reducible refine wl_skipU ?_ ?_ ?_); exact rfl; exact rfl) | ((with_reducible refine wl_skip ?_ ?_); exact rfl; simp only [put_lit, List.set_cons_zero, List.set_cons_succ]))
      (first | ((with_reducible refine wl_skipU ?_ ?_ ?_); exact rfl; exact rfl) | ((with_reducible refine wl_skip ?_ ?_); exact rfl; simp only [put_lit, List.set_cons_zero, List.set_cons_succ]))
      (first | ((with_reducible refine wl_skipU ?_ ?_ ?_); exact rfl; exact rfl) | ((with_reducible refine wl_skip ?_ ?_); exact rfl; simp only [put_lit, List.set_cons_zero, List.set_cons_succ]))
      (first | ((with_reducible refine wl_skipU ?_ ?_ ?_); exact rfl; exact rfl) | ((with_reducible refine wl_skip ?_ ?_); exact rfl; simp only [put_lit, List.set_cons_zero, List.set_cons_succ]))
      (first | ((with_reducible refine wl_skipU ?_ ?_ ?_); exact rfl; exact rfl) | ((with_reducible refine wl_skip ?_ ?_); exact rfl; simp only [put_lit, List.set_cons_zero, List.set_cons_succ]))
      (first | ((with_reducible refine wl_skipU ?_ ?_ ?_); exact rfl; exact rfl) | ((with_reducible refine wl_skip ?_ ?_); exact rfl; simp only [put_lit, List.set_cons_zero, List.set_cons_succ]))
      (first | ((with_reducible refine wl_skipU ?_ ?_ ?_); exact rfl; exact rfl) | ((with_reducible refine wl_skip ?_ ?_); exact rfl; simp only [put_lit, List.set_cons_zero, List.set_cons_succ]))
      (with_reducible refine wl_k ?_ ?_); exact rfl; intro K hK; go_simp; refine hK _ ?_; clear hK K
      (with_reducible refine wl_k ?_ ?_); exact rfl; intro K hK; go_simp; refine hK _ ?_; clear hK K
      clear hp
      go_upto_region 2 with (fail)
      apply wp_region_lit
      (with_reducible refine wl_k ?_ ?_); exact rfl; intro K hK; go_simp; refine hK _ ?_; clear hK K
      go_wp2_with fail
      go_ret
      exact ⟨by rw [HE2.out]; rfl, hb⟩
  · have h1I : o < 0 := by omega
    have HE2 : Hid (placeE h o f = 1) := Lib.hid (by simp [placeE, h1])
    clear h1 HH hp
    go_upto_region 1 with (fail)
    apply wp_region_lit
    (with_reducible refine wl_k ?_ ?_); exact rfl; intro K hK; go_simp; refine hK _ ?_; clear hK K
    (with_reducible refine wl_k ?_ ?_); exact rfl; intro K hK; go_simp; refine hK _ ?_; clear hK K
    (with_reducible refine wl_k ?_ ?_); exact rfl; intro K hK; go_simp; refine hK _ ?_; clear hK K
    (first | ((with_reducible refine wl_skipU ?_ ?_ ?_); exact rfl; exact rfl) | ((with_reducible refine wl_skip ?_ ?_); exact rfl; simp only [put_lit, List.set_cons_zero, List.set_cons_succ]))
    (first | ((with_reducible refine wl_skipU ?_ ?_ ?_); exact rfl; exact rfl) | ((with_reducible refine wl_skip ?_ ?_); exact rfl; simp only [put_lit, List.set_cons_zero, List.set_cons_succ]))
    (first | ((with_reducible refine wl_skipU ?_ ?_ ?_); exact rfl; exact rfl) | ((with_reducible refine wl_skip ?_ ?_); exact rfl; simp only [put_lit, List.set_cons_zero, List.set_cons_succ]))
    (first | ((with_reducible refine wl_skipU ?_ ?_ ?_); exact rfl; exact rfl) | ((with_reducible refine wl_skip ?_ ?_); exact rfl; simp only [put_lit, List.set_cons_zero, List.set_cons_succ]))
    (first | ((with_reducible refine wl_skipU ?_ ?_ ?_); exact rfl; exact rfl) | ((with_reducible refine wl_skip ?_ ?_); exact rfl; simp only [put_lit, List.set_cons_zero, List.set_cons_succ]))
    (first | ((with_reducible refine wl_skipU ?_ ?_ ?_); exact rfl; exact rfl) | ((with_reducible refine wl_skip ?_ ?_); exact rfl; simp only [put_lit, List.set_cons_zero, List.set_cons_succ]))
    (first | ((with_reducible refine wl_skipU ?_ ?_ ?_); exact rfl; exact rfl) | ((with_reducible refine wl_skip ?_ ?_); exact rfl; simp only [put_lit, List.set_cons_zero, List.set_cons_succ]))
    (with_reducible refine wl_k ?_ ?_); exact rfl; intro K hK; go_simp; refine hK _ ?_; clear hK K
    (with_reducible refine wl_k ?_ ?_); exact rfl; intro K hK; go_simp; refine hK _ ?_; clear hK K
    (first | ((with_reducible refine wl_skipU ?_ ?_ ?_); exact rfl; exact rfl) | ((with_reducible refine wl_skip ?_ ?_); exact rfl; simp only [put_lit, List.set_cons_zero, List.set_cons_succ]))
    (first | ((with_reducible refine wl_skipU ?_ ?_ ?_); exact rfl; exact rfl) | ((with_reducible refine wl_skip ?_ ?_); exact rfl; simp only [put_lit, List.set_cons_zero, List.set_cons_succ]))
    (with_reducible refine wl_k ?_ ?_); exact rfl; intro K hK; go_simp; refine hK _ ?_; clear hK K
    (with_reducible refine wl_k ?_ ?_); exact rfl; intro K hK; go_simp; refine hK _ ?_; clear hK K
    (first | ((with_reducible refine wl_skipU ?_ ?_ ?_); exact rfl; exact rfl) | ((with_reducible refine wl_skip ?_ ?_); exact rfl; simp only [put_lit, List.set_cons_zero, List.set_cons_succ]))
    (first | ((with_reducible refine wl_skipU ?_ ?_ ?_); exact rfl; exact rfl) | ((with_reducible refine wl_skip ?_ ?_); exact rfl; simp only [put_lit, List.set_cons_zero, List.set_cons_succ]))
    (first | ((with_reducible refine wl_skipU ?_ ?_ ?_); exact rfl; exact rfl) | ((with_reducible refine wl_skip ?_ ?_); exact rfl; simp only [put_lit, List.set_cons_zero, List.set_cons_succ]))
    (first | ((with_reducible refine wl_skipU ?_ ?_ ?_); exact rfl; exact rfl) | ((with_reducible refine wl_skip ?_ ?_); exact rfl; simp only [put_lit, List.set_cons_zero, List.set_cons_succ]))
    (first | ((with_reducible refine wl_skipU ?_ ?_ ?_); exact rfl; exact rfl) | ((with_reducible refine wl_skip ?_ ?_); exact rfl; simp only [put_lit, List.set_cons_zero, List.set_cons_succ]))
    (first | ((with_reducible refine wl_skipU ?_ ?_ ?_); exact rfl; exact rfl) | ((with_reducible refine wl_skip ?_ ?_); exact rfl; simp only [put_lit, List.set_cons_zero, List.set_cons_succ]))
    (first | ((with_reducible refine wl_skipU ?_ ?_ ?_); exact rfl; exact rfl) | ((with_reducible refine wl_skip ?_ ?_); exact rfl; simp only [put_lit, List.set_cons_zero, List.set_cons_succ]))
    (first | ((with_reducible refine wl_skipU ?_ ?_ ?_); exact rfl; exact rfl) | ((with_reducible refine wl_skip ?_ ?_); exact rfl; simp only [put_lit, List.set_cons_zero, List.set_cons_succ]))
    (first | ((with_reducible refine wl_skipU ?_ ?_ ?_); exact rfl; exact rfl) | ((with_reducible refine wl_skip ?_ ?_); exact rfl; simp only [put_lit, List.set_cons_zero, List.set_cons_succ]))
    (first | ((with_reducible refine wl_skipU ?_ ?_ ?_); exact rfl; exact rfl) | ((with_reducible refine wl_skip ?_ ?_); exact rfl; simp only [put_lit, List.set_cons_zero, List.set_cons_succ]))
    (first | ((with_reducible refine wl_skipU ?_ ?_ ?_); exact rfl; exact rfl) | ((with_reducible refine wl_skip ?_ ?_); exact rfl; simp only [put_lit, List.set_cons_zero, List.set_cons_succ]))
    (with_reducible refine wl_k ?_ ?_); exact rfl; intro K hK; go_simp; refine hK _ ?_; clear hK K
    (with_reducible refine wl_k ?_ ?_); exact rfl; intro K hK; go_simp; refine hK _ ?_; clear hK K
    go_upto_region 2 with (fail)
    apply wp_region_lit
    (with_reducible refine wl_k ?_ ?_); exact rfl; intro K hK; go_simp; refine hK _ ?_; clear hK K
    go_wp2_with fail
    go_ret
    exact ⟨by rw [HE2.out]; rfl, hb⟩
end Go.Proofs.Ytpamocglecangaa
namespace Go.Proofs.Ytpamocglecangaa
open Go.RowKit Go.Proofs.Ytpamocglecangaa.Nm
set_option linter.unusedSimpArgs false
def aloneE (h : Hp) (v x : Va) : Int := if arrV h.bus.length v && ofV h.obs.length h.bus.length x then (match h.bus[v.num.toNat]? with | some b => if b.count = 0 then 140 else if b.count > 1 then 141 else 0 | none => 4) else 4
theorem HAt.lens {w : World} {G : Gh} {k p : Nat} {h : Hp} {oA : Option Addr} {oc : Nat} {bA : Option Addr} {bc m : Nat} {lA : Option Addr} {lc : Nat} (hh : HAt w G k p h oA oc bA bc m lA lc) : h.obs.length ≤ oc ∧ oc ≤ maxLen ∧ h.bus.length ≤ bc ∧ bc ≤ maxLen ∧ h.lev.length ≤ lc ∧ lc ≤ maxLen := by
  obtain ⟨r1, g1, e1, -⟩ := hh.obs
  obtain ⟨r2, g2, e2, -⟩ := hh.bus
  obtain ⟨r3, g3, e3, -⟩ := hh.lev
  exact ⟨by rw [← e1]; exact g1.cap, g1.max, by rw [← e2]; exact g2.cap, g2.max, by rw [← e3]; exact g3.cap, g3.max⟩
theorem HAt.hdr {w : World} {G : Gh} {k p : Nat} {h : Hp} {oA : Option Addr} {oc : Nat} {bA : Option Addr} {bc m : Nat} {lA : Option Addr} {lc : Nat} (hh : HAt w G k p h oA oc bA bc m lA lc) : Hdr w p h.obs.length h.bus.length := ⟨_, _, _, _, _, _, _, _, hh.blk⟩
theorem of_heap {w : World} {G : Gh} {k p : Nat} {h : Hp} {oA : Option Addr} {oc : Nat} {bA : Option Addr} {bc m : Nat} {lA : Option Addr} {lc : Nat} (hh : HAt w G k p h oA oc bA bc m lA lc) {D : Nat → Prop} {v : Va} {row : Array Value} (hv : VAt w D v row) : Calls Try.prog 73 #[.pointer (some ⟨p, 0, none⟩), .agg row] w fun e w' => e = .returned (.bool (ofV h.obs.length h.bus.length v)) ∧ Below w.heap.size w w' :=
  of_any p _ _ (Nat.le_trans hh.lens.1 hh.lens.2.1) (Nat.le_trans hh.lens.2.2.1 hh.lens.2.2.2.1) v w D row hv hh.hdr
theorem array_heap {w : World} {G : Gh} {k p : Nat} {h : Hp} {oA : Option Addr} {oc : Nat} {bA : Option Addr} {bc m : Nat} {lA : Option Addr} {lc : Nat} (hh : HAt w G k p h oA oc bA bc m lA lc) {D : Nat → Prop} {v : Va} {row : Array Value} (hv : VAt w D v row) : Calls Try.prog 78 #[.pointer (some ⟨p, 0, none⟩), .agg row] w fun e w' => e = .returned (.bool (arrV h.bus.length v)) ∧ Below w.heap.size w w' :=
  array_any (Nat.le_trans hh.lens.1 hh.lens.2.1) (Nat.le_trans hh.lens.2.2.1 hh.lens.2.2.2.1) hv hh.hdr
theorem row35 {w : World} {q : Nat} {row : Array Value} {t : TypeId} {fr : Nat × Nat} (h : w.heap[q]? = some (.cells row t fr)) (hs : row.size = 9) : RowAt w 35 ⟨q, 0, none⟩ row := row_mid (n := 9) h (by simp [← hs]) u35 rfl hs info35
/-- A buffer that a value names. -/
theorem arrV.get {h : Hp} {v : Va} (ha : arrV h.bus.length v = true) : ∃ (n : Nat) (b : Bu), v.kind = 8 ∧ v.num = (n : Int) ∧ n < h.bus.length ∧ h.bus[n]? = some b := by
  have := of_decide_eq_true ha
  exact ⟨v.num.toNat, h.bus[v.num.toNat]'(by omega), this.1, by omega, by omega, List.getElem?_eq_getElem _⟩
set_option maxHeartbeats 4000000 in
set_option maxRecDepth 100000 in
theorem alone_any {G : Gh} {k p : Nat} {h : Hp} {w : World} {oA : Option Addr} {oc : Nat} {bA : Option Addr} {bc m : Nat} {lA : Option Addr} {lc : Nat} (hh : HAt w G k p h oA oc bA bc m lA lc) {v x : Va} {D : Nat → Prop} {row rowx : Array Value} (hv : VAt w D v row) (hx : VAt w D x rowx) :
    Calls Try.prog 79 #[.pointer (some ⟨p, 0, none⟩), .agg row, .agg rowx] w fun e w' => e = .returned (.int .i64 (aloneE h v x)) ∧ Below w.heap.size w w' := by
  obtain ⟨tr, A2, l2, c2, A3, l3, c3, hr⟩ := hv.row
  have HR := Lib.hid hr
  have HH := Lib.hid hh
  have HV := Lib.hid hv
  have HX := Lib.hid hx
  have hs1 := hv.size
  have hs2 := hx.size
  have hb := Below.refl w.heap.size w
  have hh0 := hh.blk
  clear hv hx hr hh
  have hh := hh0
  clear hh0
  go_enter Try.func79, Try.ntmps79
  go_upto_region 0 with (fail)
  apply wp_region_lit
  have lthhq := heap_lt hh; (with_reducible refine wl_boxV rfl ?_); intro W q hbn hlq hq; replace hh := below_look hbn hh; replace hb := hb.trans (hbn.mono hb.size); clear hbn; simp only [put_lit, List.set_cons_zero, List.set_cons_succ]
  have lthhqx := heap_lt hh; have lthqqx := heap_lt hq; (with_reducible refine wl_boxV rfl ?_); intro W2 qx hbn hlqx hqx; replace hh := below_look hbn hh; replace hq := below_look hbn hq; replace hb := hb.trans (hbn.mono hb.size); clear hbn; simp only [put_lit, List.set_cons_zero, List.set_cons_succ]
  (with_reducible refine wl_k ?_ ?_); exact rfl; intro K hK; go_simp; refine hK _ ?_; clear hK K
  have hp := hq
  clear hq
  obtain ⟨ba, hba⟩ : ∃ b, b = arrV h.bus.length v := ⟨_, rfl⟩
  obtain ⟨bo, hbo⟩ : ∃ b, b = ofV h.obs.length h.bus.length x := ⟨_, rfl⟩
  have hc := array_heap (HH.out.old hb) (HV.out.old hb)
  rw [← hba] at hc
  have HC := Lib.hid hc
  clear hc
  go_upto_region 1 with (fail)
  cases ba with
  | false =>
    have HD : Hid (aloneE h v x = 4) := Lib.hid (by unfold aloneE; rw [← hba]; rfl)
    clear hba hbo HH HX
    apply wp_region_lit
    (with_reducible refine wl_k ?_ ?_); exact rfl; intro K hK; go_simp; refine hK _ ?_; clear hK K
    ((with_reducible apply wl_rowG); exact rfl; exact rfl; exact row35 hp hs1)
    (with_reducible refine wl_ck ?_ ?_); exact rfl; intro K hK; go_simp; refine ⟨_, _, ⟨rfl, rfl⟩, hK _ _ ⟨_, HC.out, ?_⟩⟩; clear hK K; rintro e w7 ⟨rfl, hb7⟩; refine ⟨_, rfl, ?_⟩; simp only [put_lit, List.set_cons_zero, List.set_cons_succ]
    (with_reducible refine wl_k ?_ ?_); exact rfl; intro K hK; go_simp; refine hK _ ?_; clear hK K
    (with_reducible refine wl_k ?_ ?_); exact rfl; intro K hK; go_simp; refine hK _ ?_; clear hK K
    (first | ((with_reducible refine wl_skipU ?_ ?_ ?_); exact rfl; exact rfl) | ((with_reducible refine wl_skip ?_ ?_); exact rfl; simp only [put_lit, List.set_cons_zero, List.set_cons_succ]))
    (first | ((with_reducible refine wl_skipU ?_ ?_ ?_); exact rfl; exact rfl) | ((with_reducible refine wl_skip ?_ ?_); exact rfl; simp only [put_lit, List.set_cons_zero, List.set_cons_succ]))
    (first | ((with_reducible refine wl_skipU ?_ ?_ ?_); exact rfl; exact rfl) | ((with_reducible refine wl_skip ?_ ?_); exact rfl; simp only [put_lit, List.set_cons_zero, List.set_cons_succ]))
    (first | ((with_reducible refine wl_skipU ?_ ?_ ?_); exact rfl; exact rfl) | ((with_reducible refine wl_skip ?_ ?_); exact rfl; simp only [put_lit, List.set_cons_zero, List.set_cons_succ]))
    (with_reducible refine wl_k ?_ ?_); exact rfl; intro K hK; go_simp; refine hK _ ?_; clear hK K
    (with_reducible refine wl_k ?_ ?_); exact rfl; intro K hK; go_simp; refine hK _ ?_; clear hK K
    replace hb := hb.trans (hb7.mono hb.size)
    clear hb7 HC hh hp hqx
    go_upto_region 2 with (fail)
    apply wp_region_lit
    (with_reducible refine wl_k ?_ ?_); exact rfl; intro K hK; go_simp; refine hK _ ?_; clear hK K
    go_wp2_with fail
    go_ret
    exact ⟨by rw [HD.out]; rfl, hb⟩
  | true =>
    have HBA := Lib.hid hba
    have HBO := Lib.hid hbo
    clear hba hbo
    apply wp_region_lit
    (with_reducible refine wl_k ?_ ?_); exact rfl; intro K hK; go_simp; refine hK _ ?_; clear hK K
    ((with_reducible apply wl_rowG); exact rfl; exact rfl; exact row35 hp hs1)
    (with_reducible refine wl_ck ?_ ?_); exact rfl; intro K hK; go_simp; refine ⟨_, _, ⟨rfl, rfl⟩, hK _ _ ⟨_, HC.out, ?_⟩⟩; clear hK K; rintro e w7 ⟨rfl, hb7⟩; refine ⟨_, rfl, ?_⟩; simp only [put_lit, List.set_cons_zero, List.set_cons_succ]
    replace hh := below_look hb7 hh; replace hp := below_look hb7 hp; replace hqx := below_look hb7 hqx; replace hb := hb.trans (hb7.mono hb.size); clear hb7
    have hc := of_heap (HH.out.old hb) (HX.out.old hb)
    rw [← HBO.out] at hc
    clear HC
    have HC := Lib.hid hc
    clear hc
    cases bo with
    | false =>
      have HD : Hid (aloneE h v x = 4) := Lib.hid (by unfold aloneE; rw [← HBA.out, ← HBO.out]; rfl)
      clear HH HX
      (with_reducible refine wl_k ?_ ?_); exact rfl; intro K hK; go_simp; refine hK _ ?_; clear hK K
      (with_reducible refine wl_k ?_ ?_); exact rfl; intro K hK; go_simp; refine hK _ ?_; clear hK K
      (with_reducible refine wl_k ?_ ?_); exact rfl; intro K hK; go_simp; refine hK _ ?_; clear hK K
      ((with_reducible apply wl_rowG); exact rfl; exact rfl; exact row35 hqx hs2)
      (with_reducible refine wl_ck ?_ ?_); exact rfl; intro K hK; go_simp; refine ⟨_, _, ⟨rfl, rfl⟩, hK _ _ ⟨_, HC.out, ?_⟩⟩; clear hK K; rintro e w8 ⟨rfl, hb8⟩; refine ⟨_, rfl, ?_⟩; simp only [put_lit, List.set_cons_zero, List.set_cons_succ]
      (with_reducible refine wl_k ?_ ?_); exact rfl; intro K hK; go_simp; refine hK _ ?_; clear hK K
      (with_reducible refine wl_k ?_ ?_); exact rfl; intro K hK; go_simp; refine hK _ ?_; clear hK K
      (with_reducible refine wl_k ?_ ?_); exact rfl; intro K hK; go_simp; refine hK _ ?_; clear hK K
      replace hb := hb.trans (hb8.mono hb.size)
      clear hb8 HC hh hp hqx
      go_upto_region 2 with (fail)
      apply wp_region_lit
      (with_reducible refine wl_k ?_ ?_); exact rfl; intro K hK; go_simp; refine hK _ ?_; clear hK K
      go_wp2_with fail
      go_ret
      exact ⟨by rw [HD.out]; rfl, hb⟩
    | true =>
      (with_reducible refine wl_k ?_ ?_); exact rfl; intro K hK; go_simp; refine hK _ ?_; clear hK K
      (with_reducible refine wl_k ?_ ?_); exact rfl; intro K hK; go_simp; refine hK _ ?_; clear hK K
      (with_reducible refine wl_k ?_ ?_); exact rfl; intro K hK; go_simp; refine hK _ ?_; clear hK K
      ((with_reducible apply wl_rowG); exact rfl; exact rfl; exact row35 hqx hs2)
      (with_reducible refine wl_ck ?_ ?_); exact rfl; intro K hK; go_simp; refine ⟨_, _, ⟨rfl, rfl⟩, hK _ _ ⟨_, HC.out, ?_⟩⟩; clear hK K; rintro e w8 ⟨rfl, hb8⟩; refine ⟨_, rfl, ?_⟩; simp only [put_lit, List.set_cons_zero, List.set_cons_succ]
      (with_reducible refine wl_k ?_ ?_); exact rfl; intro K hK; go_simp; refine hK _ ?_; clear hK K
      (with_reducible refine wl_k ?_ ?_); exact rfl; intro K hK; go_simp; refine hK _ ?_; clear hK K
      (with_reducible refine wl_k ?_ ?_); exact rfl; intro K hK; go_simp; refine hK _ ?_; clear hK K
      replace hh := below_look hb8 hh; replace hp := below_look hb8 hp; replace hb := hb.trans (hb8.mono hb.size); clear hb8
      clear HC hqx
      obtain ⟨n, o, h8, hn, hnl, ho⟩ := arrV.get HBA.out.symm
      have hnlI : (n : Int) < (h.bus.length : Int) := by omega
      obtain ⟨g, rows, rfl, hR⟩ := (HH.out.old hb).bus.rows ho
      obtain ⟨fA, fc, hL, -⟩ := hR.loads ho
      have HL := Lib.hid hL
      have HD : Hid (aloneE h v x = if o.count = 0 then 140 else if o.count > 1 then 141 else 0) := Lib.hid (by unfold aloneE; rw [← HBA.out, ← HBO.out, hn]; simp [ho])
      have HN := Lib.hid hn
      clear h8 hn ho hR hL
      go_upto_region 3 with (fail)
      refine wp_region_belowAll mixed (by kernel_rfl) ?_
      (with_reducible refine wq_k ?_ ?_); exact rfl; intro K hK; go_simp; (with_reducible refine hK _ ?_); clear hK K
      (with_reducible refine wq_k ?_ ?_); exact rfl; intro K hK; go_simp; (with_reducible refine hK _ ?_); clear hK K
      (with_reducible refine wq_k ?_ ?_); exact rfl; intro K hK; go_simp; (with_reducible refine hK _ ?_); clear hK K
      ((with_reducible apply wq_one); exact rfl; exact rfl; intro w' hw'; first | exact vk (below_look hw' (by with_reducible assumption)) (by with_reducible assumption) | exact vn (below_look hw' (by with_reducible assumption)) (by with_reducible assumption) | exact vl (below_look hw' (by with_reducible assumption)) (by with_reducible assumption) | exact h0 (below_look hw' (by with_reducible assumption)) | exact h1 (below_look hw' (by with_reducible assumption)) | exact h2 (below_look hw' (by with_reducible assumption)) | exact h3 (below_look hw' (by with_reducible assumption)))
      (with_reducible refine wq_k ?_ ?_); exact rfl; intro K hK; go_simp; (with_reducible refine hK _ ?_); clear hK K
      ((with_reducible apply wq_one); exact rfl; exact rfl; intro w' hw'; exact vnN (below_look hw' (by with_reducible assumption)) (by with_reducible assumption) (by with_reducible assumption))
      (with_reducible refine wq_k ?_ ?_); exact rfl; intro K hK; go_simp; (with_reducible refine hK _ ?_); clear hK K
      (with_reducible refine wq_k ?_ ?_); exact rfl; intro K hK; go_simp; (with_reducible refine hK _ ?_); clear hK K
      ((with_reducible apply wq_one); exact rfl; exact rfl; intro w' hw'; exact (HL.out w' hw').c)
      (with_reducible refine wq_k ?_ ?_); exact rfl; intro K hK; go_simp; (with_reducible refine hK _ ?_); clear hK K
      (with_reducible refine wq_k ?_ ?_); exact rfl; intro K hK; go_simp; (with_reducible refine hK _ ?_); clear hK K
      intro w9 hb9
      have HL9 := Lib.hid (fun w' hw => HL.out w' (hb9.trans (Below.mono hw hb9.size)))
      replace hh := below_look hb9 hh; replace hp := below_look hb9 hp; replace hb := hb.trans (hb9.mono hb.size); clear hb9
      clear HL
      have HL := HL9
      by_cases c0 : o.count = 0
      · have e0 : (o.count == 0) = true := by simp [c0]
        rw [if_pos c0] at HD
        clear c0 HL HL9
        go_upto_region 4 with (fail)
        apply wp_region_lit
        (with_reducible refine wl_k ?_ ?_); exact rfl; intro K hK; go_simp; refine hK _ ?_; clear hK K
        go_wp2_with fail
        go_ret
        exact ⟨by rw [HD.out]; rfl, hb⟩
      · have e0 : (o.count == 0) = false := by simp [c0]
        rw [if_neg c0] at HD
        clear c0 HL9
        go_upto_region 5 with (fail)
        by_cases c1 : o.count > 1
        · have h1I : (1 : Int) < o.count := c1
          rw [if_pos c1] at HD
          refine wp_region_belowAll mixed (by kernel_rfl) ?_
          (with_reducible refine wq_k ?_ ?_); exact rfl; intro K hK; go_simp; (with_reducible refine hK _ ?_); clear hK K
          (with_reducible refine wq_k ?_ ?_); exact rfl; intro K hK; go_simp; (with_reducible refine hK _ ?_); clear hK K
          (with_reducible refine wq_k ?_ ?_); exact rfl; intro K hK; go_simp; (with_reducible refine hK _ ?_); clear hK K
          ((with_reducible apply wq_one); exact rfl; exact rfl; intro w' hw'; first | exact vk (below_look hw' (by with_reducible assumption)) (by with_reducible assumption) | exact vn (below_look hw' (by with_reducible assumption)) (by with_reducible assumption) | exact vl (below_look hw' (by with_reducible assumption)) (by with_reducible assumption) | exact h0 (below_look hw' (by with_reducible assumption)) | exact h1 (below_look hw' (by with_reducible assumption)) | exact h2 (below_look hw' (by with_reducible assumption)) | exact h3 (below_look hw' (by with_reducible assumption)))
          (with_reducible refine wq_k ?_ ?_); exact rfl; intro K hK; go_simp; (with_reducible refine hK _ ?_); clear hK K
          ((with_reducible apply wq_one); exact rfl; exact rfl; intro w' hw'; exact vnN (below_look hw' (by with_reducible assumption)) (by with_reducible assumption) (by with_reducible assumption))
          (with_reducible refine wq_k ?_ ?_); exact rfl; intro K hK; go_simp; (with_reducible refine hK _ ?_); clear hK K
          (with_reducible refine wq_k ?_ ?_); exact rfl; intro K hK; go_simp; (with_reducible refine hK _ ?_); clear hK K
          ((with_reducible apply wq_one); exact rfl; exact rfl; intro w' hw'; exact (HL.out w' hw').c)
          (with_reducible refine wq_k ?_ ?_); exact rfl; intro K hK; go_simp; (with_reducible refine hK _ ?_); clear hK K
          (with_reducible refine wq_k ?_ ?_); exact rfl; intro K hK; go_simp; (with_reducible refine hK _ ?_); clear hK K
          intro w10 hb10
          replace hb := hb.trans (hb10.mono hb.size)
          clear hb10 HL hh hp
          go_upto_region 6 with (fail)
          apply wp_region_lit
          (with_reducible refine wl_k ?_ ?_); exact rfl; intro K hK; go_simp; refine hK _ ?_; clear hK K
          go_wp2_with fail
          go_ret
          exact ⟨by rw [HD.out]; rfl, hb⟩
        · have h1I : ¬ (1 : Int) < o.count := c1
          rw [if_neg c1] at HD
          refine wp_region_belowAll mixed (by kernel_rfl) ?_
          (with_reducible refine wq_k ?_ ?_); exact rfl; intro K hK; go_simp; (with_reducible refine hK _ ?_); clear hK K
          (with_reducible refine wq_k ?_ ?_); exact rfl; intro K hK; go_simp; (with_reducible refine hK _ ?_); clear hK K
          (with_reducible refine wq_k ?_ ?_); exact rfl; intro K hK; go_simp; (with_reducible refine hK _ ?_); clear hK K
          ((with_reducible apply wq_one); exact rfl; exact rfl; intro w' hw'; first | exact vk (below_look hw' (by with_reducible assumption)) (by with_reducible assumption) | exact vn (below_look hw' (by with_reducible assumption)) (by with_reducible assumption) | exact vl (below_look hw' (by with_reducible assumption)) (by with_reducible assumption) | exact h0 (below_look hw' (by with_reducible assumption)) | exact h1 (below_look hw' (by with_reducible assumption)) | exact h2 (below_look hw' (by with_reducible assumption)) | exact h3 (below_look hw' (by with_reducible assumption)))
          (with_reducible refine wq_k ?_ ?_); exact rfl; intro K hK; go_simp; (with_reducible refine hK _ ?_); clear hK K
          ((with_reducible apply wq_one); exact rfl; exact rfl; intro w' hw'; exact vnN (below_look hw' (by with_reducible assumption)) (by with_reducible assumption) (by with_reducible assumption))
          (with_reducible refine wq_k ?_ ?_); exact rfl; intro K hK; go_simp; (with_reducible refine hK _ ?_); clear hK K
          (with_reducible refine wq_k ?_ ?_); exact rfl; intro K hK; go_simp; (with_reducible refine hK _ ?_); clear hK K
          ((with_reducible apply wq_one); exact rfl; exact rfl; intro w' hw'; exact (HL.out w' hw').c)
          (with_reducible refine wq_k ?_ ?_); exact rfl; intro K hK; go_simp; (with_reducible refine hK _ ?_); clear hK K
          (with_reducible refine wq_k ?_ ?_); exact rfl; intro K hK; go_simp; (with_reducible refine hK _ ?_); clear hK K
          intro w10 hb10
          replace hb := hb.trans (hb10.mono hb.size)
          clear hb10 HL hh hp
          go_upto_region 7 with (fail)
          apply wp_region_lit
          (with_reducible refine wl_k ?_ ?_); exact rfl; intro K hK; go_simp; refine hK _ ?_; clear hK K
          go_wp2_with fail
          go_ret
          exact ⟨by rw [HD.out]; rfl, hb⟩
end Go.Proofs.Ytpamocglecangaa
namespace Go.Proofs.Ytpamocglecangaa
open Go.RowKit Go.Proofs.Ytpamocglecangaa.Nm
set_option linter.unusedSimpArgs false
def zrow8 : Array Value := cell8 (cell4 0 ⟨#[]⟩ 0 none 0 0) 0 0 0 none 0 0
def zrow12 : Array Value := zrow ++ #[.int .i64 0, .int .i64 0, .int .i64 0]
/-- A slice's type, its elements' type, cells and bytes, and a zero element. -/
def Elt (sty ty : TypeId) (sz by0 : Nat) (z : Array Value) : Prop := Try.prog.underlying sty = some (.slice ty) ∧ 0 < sz ∧ z.size = sz ∧ ∃ i0 z0, Try.prog.info? ty = some i0 ∧ i0.zero = some z0 ∧ i0.size = sz ∧ i0.bytes = by0 ∧ z0.cells = z
theorem info35b : (Try.prog.info? 35).map (fun i => (i.zero, i.size, i.bytes)) = some (some (.agg zrow), 9, 136) := by kernel_rfl
theorem info41b : (Try.prog.info? 41).map (fun i => (i.zero, i.size, i.bytes)) = some (some (.agg zrow8), 8, 104) := by kernel_rfl
theorem info97b : (Try.prog.info? 97).map (fun i => (i.zero, i.size, i.bytes)) = some (some (.agg #[.int .i64 0, .slice none 0 0]), 2, 32) := by kernel_rfl
theorem info98b : (Try.prog.info? 98).map (fun i => (i.zero, i.size, i.bytes)) = some (some (.slice none 0 0), 1, 24) := by kernel_rfl
theorem info101b : (Try.prog.info? 101).map (fun i => (i.zero, i.size, i.bytes)) = some (some (.agg zrow12), 12, 160) := by kernel_rfl
theorem elt33 : Elt 33 35 9 136 zrow := by obtain ⟨i, a, b, c, d⟩ := info_parts info35b; exact ⟨u33, by decide, rfl, i, _, a, b, c, d, rfl⟩
theorem elt38 : Elt 38 41 8 104 zrow8 := by obtain ⟨i, a, b, c, d⟩ := info_parts info41b; exact ⟨u38, by decide, rfl, i, _, a, b, c, d, rfl⟩
theorem elt78 : Elt 78 97 2 32 #[.int .i64 0, .slice none 0 0] := by obtain ⟨i, a, b, c, d⟩ := info_parts info97b; exact ⟨u78, by decide, rfl, i, _, a, b, c, d, rfl⟩
theorem elt85 : Elt 85 98 1 24 #[.slice none 0 0] := by obtain ⟨i, a, b, c, d⟩ := info_parts info98b; exact ⟨u85, by decide, rfl, i, _, a, b, c, d, rfl⟩
theorem elt98 : Elt 98 101 12 160 zrow12 := by obtain ⟨i, a, b, c, d⟩ := info_parts info101b; exact ⟨u98, by decide, rfl, i, _, a, b, c, d, rfl⟩
theorem madeL_get {z : Array Value} {sz n m : Nat} (hz : z.size = sz) (h0 : 0 < sz) (h : m < n * sz) : (madeCells z (n * sz))[m]? = z[m % sz]? := by
  unfold madeCells
  rw [Array.getElem?_map, Array.getElem?_range, if_pos h]
  have : m % sz < z.size := by rw [hz]; exact Nat.mod_lt _ h0
  simp only [Option.map_some, hz]
  rw [Array.getElem?_eq_getElem this]
  simp [getElem!_pos, this]
theorem madeL {z : Array Value} {sz n i : Nat} (hz : z.size = sz) (h0 : 0 < sz) (hi : i < n) : (madeCells z (n * sz)).extract (i * sz) (i * sz + sz) = z := by
  have hf : i * sz + sz ≤ n * sz := by
    calc i * sz + sz = (i + 1) * sz := by rw [Nat.succ_mul]
      _ ≤ n * sz := Nat.mul_le_mul_right _ (by omega)
  apply Array.ext_getElem?
  intro m
  rw [Array.getElem?_extract, size_madeCells]
  by_cases hm : m < sz
  · rw [if_pos (by omega), madeL_get hz h0 (by omega), Nat.mul_comm, Nat.mul_add_mod, Nat.mod_eq_of_lt hm]
  · rw [if_neg (by omega), Array.getElem?_eq_none (by omega)]
/-- A made slice of zeros. -/
theorem run_makeL {sty ty : TypeId} {sz by0 : Nat} {z : Array Value} (he : Elt sty ty sz by0 z) (w : World) (n c : Nat) (hn : n ≤ c) (hc : c * by0 ≤ 140737488355328) (hm : c ≤ maxLen) :
    ∃ w', (Instr.makeSlice sty (.int .i64 (n : Int)) (.int .i64 (c : Int))).run Try.prog w = .ok (.slice (some ⟨w.heap.size, 0, none⟩) n c) w' ∧ Below w.heap.size w w' ∧ OwnL w' ty sz (some ⟨w.heap.size, 0, none⟩) c (List.replicate n z) ∧ w.heap.size < w'.heap.size := by
  obtain ⟨hu, h0, hz, i0, z0, hi, hz0, hz1, hz2, hzl⟩ := he
  have hr := run_make (P := Try.prog) w sty ty i0 z0 hu hi hz0 .i64 .i64 (n : Int) (c : Int) (by omega) (by omega) (by
    rw [hz2]
    have : ((by0 * c : Nat) : Int) ≤ 281474976710656 := by rw [Nat.mul_comm]; omega
    rwa [Int.natCast_mul] at this) (by unfold maxLen at hm; omega)
  simp only [Int.toNat_natCast] at hr
  rw [hzl, hz1] at hr
  refine ⟨_, hr, (Below.refl _ w).alloc (Nat.le_refl _) _, ⟨fun r hr => by rw [(List.mem_replicate.1 hr).2]; exact hz, by rw [List.length_replicate]; exact hn, hm, .inr ⟨_, _, rfl, ha_new rfl, size_madeCells _ _, fun i r hr => ?_⟩⟩, heap_lt (ha_new rfl)⟩
  rw [List.getElem?_replicate] at hr
  split at hr
  · rename_i hlt
    cases hr
    exact madeL hz h0 (by omega)
  · cases hr
section
variable {w : World} {ty sty : TypeId} {sz by0 : Nat} {A : Option Addr} {c : Nat} {rows : List (Array Value)} {z : Array Value}
theorem run_pushL (he : Elt sty ty sz by0 z) (oty : TypeId) (h : OwnL w ty sz A c rows) {row : Array Value} {q : Nat} {tq : TypeId} {fr : Nat × Nat} (hq : w.heap[q]? = some (.cells row tq fr)) (hsz : row.size = sz) (h1 : row.all (·.oneCell') = true) (hlen : (rows.length + 1) * by0 ≤ 140737488355328) (hm : rows.length + 1 ≤ maxLen) :
    ∃ A' c' w', (Builtin.append_ #[sty, sty] oty #[.slice A rows.length c, .slice (some ⟨q, 0, none⟩) 1 1]).run Try.prog w = .ok (.slice A' (rows.length + 1) c') w' ∧ OwnL w' ty sz A' c' (rows ++ [row]) ∧ Keep (fun b => A = some ⟨b, 0, none⟩) w w' ∧ (A' = A ∨ ∃ g, A' = some ⟨g, 0, none⟩ ∧ w.heap.size ≤ g) := by
  obtain ⟨hu, h0, hz, i0, z0, hi, hz0, hz1, hz2, hzl⟩ := he
  obtain ⟨A', c', w', a1, a2, a3, a4⟩ := run_catL (oty := oty) hu hi hz0 hz1 hz2 (by rw [hzl]; exact hz) h0 h (news := [row]) (fun r hr => by simp at hr; rw [hr]; exact hsz) (fun r hr u hu => by
    simp at hr; rw [hr] at hu
    rw [Array.all_eq_true] at h1
    obtain ⟨i, hi, rfl⟩ := List.mem_iff_getElem.1 hu
    have := h1 i (by simpa using hi)
    simpa using this) (a := ⟨q, 0, none⟩) (cn := 1) (fun j u hj => by
      rw [show (Addr.add ⟨q, 0, none⟩ j) = ⟨q, j, none⟩ by rw [Addr.add_mid]; simp, cell_of_row _ _ _ _ _ _ hq]
      simpa using hj) (by simpa using hm) (by simpa using hlen)
  refine ⟨A', c', w', ?_, a2, a3, a4⟩
  simpa using a1
end
section
variable {ops : Array Oper} {rest : List Oper} {o : Oper} {a : Act} {w : World} {Q : Exit → Act → World → Prop} {ty sty : TypeId} {sz by0 : Nat} {A : Option Addr} {c : Nat} {rows : List (Array Value)} {z : Array Value}
theorem wl_pushL (he : Elt sty ty sz by0 z) (hg : o.guard = none) (s x : Operand) (ho : o.op = .call { callee := .builtin .append, args := #[s, x], argTypes := #[sty, sty] }) {row : Array Value} {q : Nat} {tq : TypeId} {fr : Nat × Nat}
    (hs : a.eval s = .slice A rows.length c) (hx : a.eval x = .slice (some ⟨q, 0, none⟩) 1 1) (h : OwnL w ty sz A c rows) (hq : w.heap[q]? = some (.cells row tq fr)) (hsz : row.size = sz) (h1 : row.all (·.oneCell') = true) (hlen : (rows.length + 1) * by0 ≤ 140737488355328) (hm : rows.length + 1 ≤ maxLen)
    (hK : ∀ A' c' w', OwnL w' ty sz A' c' (rows ++ [row]) → Keep (fun b => A = some ⟨b, 0, none⟩) w w' → (A' = A ∨ ∃ g, A' = some ⟨g, 0, none⟩ ∧ w.heap.size ≤ g) → wpList Try.prog ops Q rest (a.put o.dst (.slice A' (rows.length + 1) c')) w') : wpList Try.prog ops Q (o :: rest) a w := by
  obtain ⟨A', c', w', hr, h2, h3, h4⟩ := run_pushL he o.type h hq hsz h1 hlen hm
  refine wl_w hg ?_ (hK A' c' w' h2 h3 h4)
  unfold execOp
  simp only [ho, resolve, invoke, builtin, Sem.run_bind, Sem.run_pure, Result.andThen_ok, List.map_toArray, List.map_cons, List.map_nil, hs, hx, hr]
theorem wl_makeL (he : Elt sty ty sz by0 z) (hg : o.guard = none) (x y : Operand) (ho : o.op = .makeSlice sty x y) {n c : Nat} (hx : a.eval x = .int .i64 (n : Int)) (hy : a.eval y = .int .i64 (c : Int)) (hn : n ≤ c) (hc : c * by0 ≤ 140737488355328) (hm : c ≤ maxLen)
    (hK : ∀ W p, Below w.heap.size w W → w.heap.size ≤ p → p < W.heap.size → OwnL W ty sz (some ⟨p, 0, none⟩) c (List.replicate n z) → wpList Try.prog ops Q rest (a.put o.dst (.slice (some ⟨p, 0, none⟩) n c)) W) : wpList Try.prog ops Q (o :: rest) a w := by
  obtain ⟨w', hr, h2, h3, h4⟩ := run_makeL he w n c hn hc hm
  refine wl_w hg ?_ (hK w' _ h2 (Nat.le_refl _) h4 h3)
  unfold execOp
  simp only [ho, Sem.run_bind, Sem.run_pure, Result.andThen_ok, hx, hy, hr]
end
section
variable {md : Region.Mode} {ops : Array Oper} {Q : Exit → Act → World → Prop} {S : World → Prop} {fuel : Nat} {listed : Array Bool} {a : Act} {w : World} {i : Nat} {oi : Oper} {ty sty : TypeId} {sz by0 : Nat} {A : Option Addr} {c : Nat} {rows : List (Array Value)} {z : Array Value}
end
end Go.Proofs.Ytpamocglecangaa
namespace Go.Proofs.Ytpamocglecangaa
open Go.RowKit Go.Proofs.Ytpamocglecangaa.Nm
set_option linter.unusedSimpArgs false
def Lw (w : World) (D : Nat → Prop) (b : Nat) : Prop := D b ∧ b < w.heap.size
/-- New rows of values, in a block of their own. -/
def NewL (w : World) (D : Nat → Prop) (l : List Va) (e : Ending) (w' : World) : Prop := ∃ A c rows, e = .returned (.slice A l.length c) ∧ OwnL w' 35 9 A c rows ∧ rows.length = l.length ∧ (∀ g, A = some ⟨g, 0, none⟩ → w.heap.size ≤ g) ∧ (∀ (j : Nat) (v : Va) (row : Array Value), l[j]? = some v → rows[j]? = some row → VAt w' D v row) ∧ Below w.heap.size w w'
theorem build35 (ev : Operand → Value) (o : Oper) (ho : o.op = .build 35 #[]) (w : World) : (execOp ev o).run Try.prog w = .ok (.value (.agg zrow)) w := by
  unfold execOp
  simp only [ho]
  kernel_rfl
set_option maxHeartbeats 8000000 in
set_option maxRecDepth 100000 in
theorem taken_any {G : Gh} {k p : Nat} {h : Hp} {w : World} {oA : Option Addr} {oc : Nat} {bA : Option Addr} {bc m : Nat} {lA : Option Addr} {lc : Nat} (hh : HAt w G k p h oA oc bA bc m lA lc) {l : List Va} {D : Nat → Prop} {A0 : Option Addr} {n c0 : Nat} (hv : VsAt w D l A0 n c0) (hn : n ≤ 1000000) :
    Calls Try.prog 81 #[.pointer (some ⟨p, 0, none⟩), .slice A0 n c0] w (NewL w D (takenV h l)) := by
  have HR : Hid (VsAt w (Lw w D) l A0 n c0) := Lib.hid hv.low
  have HH := Lib.hid hh
  have HL := Lib.hid hv.len
  have hb := Below.refl w.heap.size w
  clear hv hh
  go_enter Try.func81, Try.ntmps81
  go_upto_region 0 with (fail)
  apply wp_region_lit
  (with_reducible refine wl_k ?_ ?_); exact rfl; intro K hK; go_simp; refine hK _ ?_; clear hK K
  go_upto_region 1 with (fail)
  apply wp_region_lit
  (with_reducible refine wl_k ?_ ?_); exact rfl; intro K hK; go_simp; refine hK _ ?_; clear hK K
  (with_reducible refine wl_k ?_ ?_); exact rfl; intro K hK; go_simp; refine hK _ ?_; clear hK K
  refine wl_makeL elt33 rfl _ _ rfl (n := 0) (c := n) rfl rfl (Nat.zero_le _) (by omega) (by unfold maxLen; omega) ?_
  intro W q hbn hlq hlt hown
  have HO : Hid (OwnL W 35 9 (some ⟨q, 0, none⟩) n []) := Lib.hid (by simpa using hown)
  simp only [put_lit, List.set_cons_zero, List.set_cons_succ]
  replace hb := hb.trans (hbn.mono hb.size)
  clear hbn hown
  (with_reducible refine wl_k ?_ ?_); exact rfl; intro K hK; go_simp; refine hK _ ?_; clear hK K
  go_upto_region 2 with (fail)
  apply wp_region_lit
  (with_reducible refine wl_k ?_ ?_); exact rfl; intro K hK; go_simp; refine hK _ ?_; clear hK K
  (with_reducible refine wl_k ?_ ?_); exact rfl; intro K hK; go_simp; refine hK _ ?_; clear hK K
  (with_reducible refine wl_k ?_ ?_); exact rfl; intro K hK; go_simp; refine hK _ ?_; clear hK K
  go_wp2_with fail
  go_loopw [5, 13] (fun s i wr => ∃ (j : Nat) (A : Option Addr) (c : Nat) (rows : List (Array Value)), j ≤ n ∧ s = .slice A j c ∧ i = .int .i64 (j : Int) ∧ Hid (rows.length = j) ∧ Hid (OwnL wr 35 9 A c rows) ∧ Hid (∀ g, A = some ⟨g, 0, none⟩ → w.heap.size ≤ g) ∧ Hid (∀ (j : Nat) (v : Va) (row : Array Value), (takenV h l)[j]? = some v → rows[j]? = some row → VAt wr (Lw w D) v row) ∧ Below w.heap.size w wr) (fun _ i _ => n - (intOf i).toNat)
  case atStart => exact ⟨0, _, _, [], by omega, rfl, rfl, Lib.hid rfl, HO, Lib.hid (fun g e => by cases e; omega), Lib.hid (fun j v row _ hr => by simp at hr), hb⟩
  case round =>
    clear hb HO hlq hlt
    obtain ⟨j, A, c, rows, hj, rfl, rfl, HRL, HO, HAl, HVs, hb⟩ := hrel
    go_upto_region 3 with (fail)
    by_cases hlt : j < n
    · have hltI : (j : Int) < (n : Int) := by omega
      obtain ⟨b2, off2, u, rowu, rfl, -, hu, hua, hrow⟩ := (HR.out.old hb).getB hlt
      have HRU := Lib.hid (hrow wr (Below.refl _ _))
      have HUA := Lib.hid hua
      have HST : Hid ((takenV h l)[j]? = some (if ofV h.obs.length h.bus.length u then u else va0)) := Lib.hid (by unfold takenV; rw [List.getElem?_map, hu]; rfl)
      have hus : rowu.size = 9 := hua.size
      have hu1 : rowu.all (·.oneCell') = true := hua.one
      have hzz := Below.refl wr.heap.size wr
      clear hu hua hrow
      apply wp_region_lit
      (with_reducible refine wl_k ?_ ?_); exact rfl; intro K hK; go_simp; refine hK _ ?_; clear hK K
      go_upto_region 4 with (fail)
      apply wp_region_lit
      (with_reducible refine wl_k ?_ ?_); exact rfl; intro K hK; go_simp; refine hK _ ?_; clear hK K
      ((with_reducible apply wl_rowG); exact rfl; exact rfl; exact HRU.out)
      (with_reducible refine wl_allV ?_); intro W5 q5 hbn hlq5 hq5; replace hzz := hzz.trans (hbn.mono hzz.size); clear hbn; simp only [put_lit, List.set_cons_zero, List.set_cons_succ]
      (with_reducible refine wl_putV hus hu1 rfl rfl rfl hq5 ?_); rw [put_noneA]; intro W6 hbx hsz hkx hnx; replace hzz := hbx _ _ (by omega) hzz; clear hq5; have hq5 := hnx; clear hnx
      clear hbx hkx hsz
      have hz2 := hzz.size
      obtain ⟨bb, hbb⟩ : ∃ b, b = ofV h.obs.length h.bus.length u := ⟨_, rfl⟩
      have hc := of_heap (HH.out.old (hb.trans (hzz.mono hb.size))) (HUA.out.old hzz)
      rw [← hbb] at hc HST
      have HC := Lib.hid hc
      clear hc hbb
      go_upto_region 5 with (fail)
      apply wp_region_lit
      (with_reducible refine wl_k ?_ ?_); exact rfl; intro K hK; go_simp; refine hK _ ?_; clear hK K
      ((with_reducible apply wl_rowG); exact rfl; exact rfl; exact row35 hq5 hus)
      (with_reducible refine wl_ck ?_ ?_); exact rfl; intro K hK; go_simp; refine ⟨_, _, ⟨rfl, rfl⟩, hK _ _ ⟨_, HC.out, ?_⟩⟩; clear hK K; rintro e w7 ⟨rfl, hb7⟩; refine ⟨_, rfl, ?_⟩; simp only [put_lit, List.set_cons_zero, List.set_cons_succ]
      replace hq5 := below_look hb7 hq5; replace hzz := hzz.trans (hb7.mono hzz.size); clear hb7
      (with_reducible refine wl_k ?_ ?_); exact rfl; intro K hK; go_simp; refine hK _ ?_; clear hK K
      clear HC
      cases bb with
      | true =>
        have HU2 := Lib.hid (HUA.out.old hzz)
        clear HUA HRU
        go_upto_region 7 with (fail)
        apply wp_region_lit
        (with_reducible refine wl_k ?_ ?_); exact rfl; intro K hK; go_simp; refine hK _ ?_; clear hK K
        ((with_reducible apply wl_rowG); exact rfl; exact rfl; exact row35 hq5 HU2.out.size)
        (with_reducible refine wl_bsV rfl HU2.out.size ?_)
        intro W8 q8 hbn hlq8 hq8
        simp only [put_lit, List.set_cons_zero, List.set_cons_succ]
        replace HO := Lib.hid (HO.out.old (hzz.trans (hbn.mono hzz.size)))
        replace HU2 := Lib.hid (HU2.out.old hbn)
        replace hb := hb.trans ((hzz.trans (hbn.mono hzz.size)).mono hb.size)
        have hbz := hzz.trans (hbn.mono hzz.size)
        clear hbn hq5
        refine wl_pushL elt33 rfl _ _ rfl (show _ = Value.slice A rows.length c by rw [HRL.out]; rfl) rfl HO.out hq8 HU2.out.size HU2.out.one (by have := HRL.out; omega) (by have := HRL.out; unfold maxLen; omega) ?_
        rw [HRL.out]
        intro A9 c9 W9 hown hk9 hA9
        have hsz8 := hb.size
        have hbb := Below.keep hb hk9 (fun b e => HAl.out b e)
        have HA9 : Hid (∀ g, A9 = some ⟨g, 0, none⟩ → w.heap.size ≤ g) := Lib.hid (fun g e => by
          rcases hA9 with e2 | ⟨g', e2, e3⟩
          · exact HAl.out g (by rw [← e2]; exact e)
          · rw [e] at e2; cases e2; omega)
        have HV9 : Hid (∀ (i : Nat) (v : Va) (row : Array Value), (takenV h l)[i]? = some v → (rows ++ [rowu])[i]? = some row → VAt W9 (Lw w D) v row) := Lib.hid (fun i v row hv hr => by
          have hrl := HRL.out
          rcases Nat.lt_trichotomy i rows.length with e | e | e
          · rw [List.getElem?_append_left e] at hr
            exact ((HVs.out i v row hv hr).old hbz).keep hk9 (fun b hb1 hb2 => by have := HAl.out b hb2; have := hb1.2; omega)
          · rw [e] at hv hr
            rw [List.getElem?_concat_length] at hr
            cases hr
            rw [hrl, HST.out] at hv
            cases hv
            exact HU2.out.keep hk9 (fun b hb1 hb2 => by have := HAl.out b hb2; have := hb1.2; omega)
          · rw [List.getElem?_eq_none (by simp; omega)] at hr; cases hr)
        have HO9 := Lib.hid hown
        have HRL9 : Hid ((rows ++ [rowu]).length = j + 1) := Lib.hid (by rw [List.length_append, HRL.out]; rfl)
        clear hown hk9 hA9 HO HVs HAl hb hq8 hbz hzz
        simp only [put_lit, List.set_cons_zero, List.set_cons_succ]
        (with_reducible refine wl_k ?_ ?_); exact rfl; intro K hK; go_simp; refine hK _ ?_; clear hK K
        go_wp2_with fail
        go_roundw
        case rel => exact ⟨j + 1, A9, c9, rows ++ [rowu], by omega, rfl, by go_num, HRL9, HO9, HA9, HV9, hbb⟩
        case measure => simp [intOf]; omega
      | false =>
        have HU2 := Lib.hid (zero_va W6 (Lw w D))
        clear HUA HRU
        go_upto_region 6 with (fail)
        apply wp_region_lit
        refine wl_w rfl (build35 _ _ rfl _) ?_
        simp only [put_lit, List.set_cons_zero, List.set_cons_succ]
        (with_reducible refine wl_putV rfl (zero_va w D).one hus rfl rfl hq5 ?_); rw [put_noneA]; intro W10 hbx hsz hkx hnx; replace hzz := hbx _ _ (by omega) hzz; clear hq5; have hq5 := hnx; clear hnx
        replace HU2 := Lib.hid (zero_va W10 (Lw w D))
        clear hbx hsz hkx
        go_upto_region 7 with (fail)
        apply wp_region_lit
        (with_reducible refine wl_k ?_ ?_); exact rfl; intro K hK; go_simp; refine hK _ ?_; clear hK K
        ((with_reducible apply wl_rowG); exact rfl; exact rfl; exact row35 hq5 HU2.out.size)
        (with_reducible refine wl_bsV rfl HU2.out.size ?_)
        intro W8 q8 hbn hlq8 hq8
        simp only [put_lit, List.set_cons_zero, List.set_cons_succ]
        replace HO := Lib.hid (HO.out.old (hzz.trans (hbn.mono hzz.size)))
        replace HU2 := Lib.hid (HU2.out.old hbn)
        replace hb := hb.trans ((hzz.trans (hbn.mono hzz.size)).mono hb.size)
        have hbz := hzz.trans (hbn.mono hzz.size)
        clear hbn hq5
        refine wl_pushL elt33 rfl _ _ rfl (show _ = Value.slice A rows.length c by rw [HRL.out]; rfl) rfl HO.out hq8 HU2.out.size HU2.out.one (by have := HRL.out; omega) (by have := HRL.out; unfold maxLen; omega) ?_
        rw [HRL.out]
        intro A9 c9 W9 hown hk9 hA9
        have hsz8 := hb.size
        have hbb := Below.keep hb hk9 (fun b e => HAl.out b e)
        have HA9 : Hid (∀ g, A9 = some ⟨g, 0, none⟩ → w.heap.size ≤ g) := Lib.hid (fun g e => by
          rcases hA9 with e2 | ⟨g', e2, e3⟩
          · exact HAl.out g (by rw [← e2]; exact e)
          · rw [e] at e2; cases e2; omega)
        have HV9 : Hid (∀ (i : Nat) (v : Va) (row : Array Value), (takenV h l)[i]? = some v → (rows ++ [zrow])[i]? = some row → VAt W9 (Lw w D) v row) := Lib.hid (fun i v row hv hr => by
          have hrl := HRL.out
          rcases Nat.lt_trichotomy i rows.length with e | e | e
          · rw [List.getElem?_append_left e] at hr
            exact ((HVs.out i v row hv hr).old hbz).keep hk9 (fun b hb1 hb2 => by have := HAl.out b hb2; have := hb1.2; omega)
          · rw [e] at hv hr
            rw [List.getElem?_concat_length] at hr
            cases hr
            rw [hrl, HST.out] at hv
            cases hv
            exact HU2.out.keep hk9 (fun b hb1 hb2 => by have := HAl.out b hb2; have := hb1.2; omega)
          · rw [List.getElem?_eq_none (by simp; omega)] at hr; cases hr)
        have HO9 := Lib.hid hown
        have HRL9 : Hid ((rows ++ [zrow]).length = j + 1) := Lib.hid (by rw [List.length_append, HRL.out]; rfl)
        clear hown hk9 hA9 HO HVs HAl hb hq8 hbz hzz
        simp only [put_lit, List.set_cons_zero, List.set_cons_succ]
        (with_reducible refine wl_k ?_ ?_); exact rfl; intro K hK; go_simp; refine hK _ ?_; clear hK K
        go_wp2_with fail
        go_roundw
        case rel => exact ⟨j + 1, A9, c9, rows ++ [zrow], by omega, rfl, by go_num, HRL9, HO9, HA9, HV9, hbb⟩
        case measure => simp [intOf]; omega
    · have hltI : ¬ (j : Int) < (n : Int) := by omega
      apply wp_region_lit
      (with_reducible refine wl_k ?_ ?_); exact rfl; intro K hK; go_simp; refine hK _ ?_; clear hK K
      go_upto_region 9 with (fail)
      apply wp_region_lit
      (with_reducible refine wl_k ?_ ?_); exact rfl; intro K hK; go_simp; refine hK _ ?_; clear hK K
      (with_reducible refine wl_k ?_ ?_); exact rfl; intro K hK; go_simp; refine hK _ ?_; clear hK K
      go_wp2_with fail
      go_ret
      have e1 : j = (takenV h l).length := by unfold takenV; rw [List.length_map, HL.out]; omega
      exact ⟨A, c, rows, by rw [← e1]; rfl, HO.out, HRL.out.trans e1, HAl.out, fun j v row h1 h2 => (HVs.out j v row h1 h2).weak fun b hb => hb.1, hb⟩
end Go.Proofs.Ytpamocglecangaa
