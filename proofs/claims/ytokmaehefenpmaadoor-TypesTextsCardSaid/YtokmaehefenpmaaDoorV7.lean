/- The text of a tree, written: lists, and nodes whose word is looked up. -/
import Derived.Test.YtokmaehefenpmaaDoorV5
import Derived.Test.YtokmaehefenpmaaDoorV6
import Derived.Test.YtokmaehefenpmaaDoorSh1
import Derived.Lib.OthersKept
namespace Go.Proofs.YtokmaehefenpmaaDoor
open Go.RowKit Go.Proofs.YtokmaehefenpmaaDoor.Nm
set_option linter.unusedSimpArgs false
theorem ownsRowF_below {w w' : World} {B : Nat} {e : TypeId} {size : Nat} {v : Value} {n : Nat} {xs : List Value} (h : w.ownsRowF B e size v n xs) (hb : Below w.heap.size w w') : w'.ownsRowF B e size v n xs :=
  h.kept (row := none) ⟨hb.os, hb.tape, hb.output, hb.size, fun k hk _ => hb.block k hk⟩ (by cases v.ownBlock <;> simp)
theorem BuilderAtF_below {w w' : World} {T e : TypeId} {B b : Nat} {p : Value} {bs : List Value} (h : Lib.BuilderAtF T e B b p bs w) (hb : Below w.heap.size w w') : Lib.BuilderAtF T e B b p bs w' := by
  obtain ⟨h1, v, h2, h3, h4⟩ := h
  exact ⟨h1, v, below_look hb h2, ownsRowF_below h3 hb, h4⟩
/-- A builder with the text so far. -/
def Bd (w : World) (B b : Nat) (l : List UInt8) : Prop := Lib.IsBuilderF 74 5 B b (Lib.byteCells l) w
theorem Bd.old {w w' : World} {B b : Nat} {l : List UInt8} (h : Bd w B b l) (hb : Below w.heap.size w w') : Bd w' B b l := h.imp (BuilderAtF_below · hb) (BuilderAtF_below · hb)
theorem Bd.lt {w : World} {B b : Nat} {l : List UInt8} (h : Bd w B b l) : B ≤ b ∧ b < w.heap.size := h.elim (fun h => ⟨h.1, h.lt⟩) (fun h => ⟨h.1, h.lt⟩)
/-- What a writing leaves alone. -/
structure Kb (B b : Nat) (w w' : World) : Prop where
  below : Below B w w'
  oth : Lib.OthersKept 5 (some b) w w'
theorem Kb.refl (B b : Nat) (w : World) : Kb B b w w := ⟨Below.refl _ _, Lib.OthersKept.refl _ _ _⟩
theorem Kb.trans {B b : Nat} {w w1 w2 : World} (h : Kb B b w w1) (k : Kb B b w1 w2) : Kb B b w w2 := ⟨h.below.trans k.below, h.oth.trans k.oth⟩
theorem Kb.of {B b : Nat} {w w' : World} (h : Below w.heap.size w w') (hB : B ≤ w.heap.size) : Kb B b w w' := ⟨h.mono hB, fun _ _ hk _ _ => below_look h hk⟩
theorem Kb.look {B b : Nat} {w w' : World} (h : Kb B b w w') {g : Nat} {cs : Array Value} {t : TypeId} {fr : Nat × Nat} (hg : w.heap[g]? = some (.cells cs t fr)) (hb : g ≠ b) (ht : t ≠ 5) : w'.heap[g]? = some (.cells cs t fr) :=
  h.oth g _ hg (by simpa using hb) (fun c fz e => by cases e; exact ht rfl)
theorem Kb.size {B b : Nat} {w w' : World} (h : Kb B b w w') : w.heap.size ≤ w'.heap.size := h.below.size
def WPost (B b : Nat) (out : List UInt8) (w : World) (e : Ending) (w' : World) : Prop := e = .returned (.tuple #[]) ∧ Bd w' B b out ∧ Kb B b w w'
theorem WriteS (B b : Nat) (l : List UInt8) (s : ByteArray) (w : World) (h : Bd w B b l) (hlen : l.length + s.size ≤ 1000000000) (hB : B ≤ w.heap.size) :
    Calls Tryd.prog 82 #[.pointer (some ⟨b, 0, none⟩), .string s] w fun e w' => e = .returned (.tuple #[.int .i64 s.size, .nilIface]) ∧ Bd w' B b (l ++ s.data.toList) ∧ Kb B b w w' := by
  refine (WriteString_any B b _ s w h (by rw [Lib.byteCells_length]; omega) hB).mono ?_
  rintro e w' ⟨rfl, h1, h2, h3⟩
  refine ⟨rfl, Or.inr ?_, h2, h3⟩
  have : Lib.byteCells (l ++ s.data.toList) = Lib.byteCells l ++ Lib.strCells s := by simp [Lib.byteCells, Lib.strCells]
  rw [this]; exact h1
theorem TyAt.kb {w w' : World} {B b : Nat} {D : Nat → Prop} {t : Ty} {row : Array Value} (h : TyAt w D t row) (hD : ∀ x, D x → x < B) (hk : Kb B b w w') : TyAt w' D t row := h.mono (fun _ h => h) fun x hx => hk.below.block x (hD x hx)
theorem TysAt.kb {w w' : World} {B b : Nat} {D : Nat → Prop} {ts : List Ty} {A : Option Addr} {l c : Nat} (h : TysAt w D ts A l c) (hD : ∀ x, D x → x < B) (hk : Kb B b w w') : TysAt w' D ts A l c := h.mono (fun _ h => h) fun x hx => hk.below.block x (hD x hx)
def cSep : ByteArray := ⟨#[44, 32]⟩
abbrev tv (b : Nat) : Value := .agg #[.pointer (some ⟨b, 0, none⟩)]
def TypC (txt : Ty → List UInt8) (t : Ty) : Prop := ∀ (w : World) (B b : Nat) (l : List UInt8) (D : Nat → Prop) (row : Array Value), Bd w B b l → B ≤ w.heap.size → l.length + (txt t).length ≤ 1000000000 → TyAt w D t row → (∀ x, D x → x < B) →
  Calls Tryd.prog 60 #[tv b, .agg row] w (WPost B b (l ++ txt t) w)
/-- The texts of some trees with commas between them, behind j of them. -/
def sepText (txt : Ty → List UInt8) : Bool → List Ty → List UInt8
  | _, [] => []
  | first, t :: l => (if first then [] else [44, 32]) ++ txt t ++ sepText txt false l
theorem run_box76 (b : Nat) (w : World) : (Instr.box 76 (tv b)).run Tryd.prog w = .ok (.pointer (some ⟨w.heap.size, 0, none⟩)) (w.alloc (.cells #[.pointer (some ⟨b, 0, none⟩)] 76)) := by kernel_rfl
theorem u76 : Tryd.prog.underlying 76 = some (.struct (Tryd.prog.fieldsOf 76)) := by kernel_rfl
theorem info76 : (Tryd.prog.info? 76).map (·.size) = some 1 := by kernel_rfl
theorem g76 {w : World} {p b : Nat} {t : TypeId} {fr : Nat × Nat} (h : w.heap[p]? = some (.cells #[.pointer (some ⟨b, 0, none⟩)] t fr)) : RowAt w 76 ⟨p, 0, none⟩ #[.pointer (some ⟨b, 0, none⟩)] := row_mid (n := 1) h (by rfl) u76 rfl rfl info76
theorem g72 {w : World} {p : Nat} {v : Value} {t : TypeId} {fr : Nat × Nat} (h : w.heap[p]? = some (.cells #[v] t fr)) : OneAt w 72 ⟨p, 0, none⟩ v := one_of u72 rfl (by rw [cell_of_row _ _ _ _ _ _ h]; rfl)
section
variable {ops : Array Oper} {rest : List Oper} {dst : Option Tmp} {ty' : TypeId} {x : Operand} {pos : String} {after : Array Edge} {a : Act} {w : World} {Q : Exit → Act → World → Prop}
theorem wl_box76 {b : Nat} (hx : a.eval x = tv b)
    (h : ∀ W p, Below w.heap.size w W → w.heap.size ≤ p → W.heap[p]? = some (.cells #[.pointer (some ⟨b, 0, none⟩)] 76 (0, 0)) → wpList Tryd.prog ops Q rest (a.put dst (.pointer (some ⟨p, 0, none⟩))) W) :
    wpList Tryd.prog ops Q (⟨dst, .box 76 x, ty', pos, after, none⟩ :: rest) a w :=
  wl_w rfl (by unfold execOp; simp [hx, run_box76 b w, Result.andThen]) (h _ _ ((Below.refl _ w).alloc (Nat.le_refl _) _) (Nat.le_refl _) (ha_new rfl))
end
theorem sep_len (txt : Ty → List UInt8) : ∀ (f : Bool) (l : List Ty) (t : Ty), t ∈ l → (txt t).length ≤ (sepText txt f l).length
  | _, [], _, h => by cases h
  | f, u :: l, t, h => by
    simp only [sepText, List.length_append]
    rcases List.mem_cons.1 h with rfl | h
    · omega
    · have := sep_len txt false l t h; omega
/-- The text of the first j trees. -/
theorem sep_step (txt : Ty → List UInt8) : ∀ (f : Bool) (l : List Ty) (j : Nat) (t : Ty), l[j]? = some t → sepText txt f (l.take (j + 1)) = sepText txt f (l.take j) ++ ((if f && j == 0 then [] else [44, 32]) ++ txt t)
  | _, [], j, t, h => by simp at h
  | f, u :: l, 0, t, h => by
    simp at h; subst h
    cases f <;> simp [sepText]
  | f, u :: l, j + 1, t, h => by
    have := sep_step txt false l j t (by simpa using h)
    simp only [List.take_succ_cons, sepText, this]
    simp
theorem sep_take (txt : Ty → List UInt8) : ∀ (f : Bool) (l : List Ty) (j : Nat), (sepText txt f (l.take j)).length ≤ (sepText txt f l).length
  | _, [], j => by simp [sepText]
  | f, u :: l, 0 => by simp [sepText]
  | f, u :: l, j + 1 => by
    have := sep_take txt false l j
    simp only [List.take_succ_cons, sepText, List.length_append]; omega
end Go.Proofs.YtokmaehefenpmaaDoor
