/- Lists of equations of the call's own: what an append leaves. Equations cut out of a list; a list of none and of one. Equations in another order, plainly. 'shaped' at the two nodes that 'awake' has: Int, and an array of one. A map literal whose ten entries come in whatever order. A builder's writing of a text, over this program. Contracts of the shelf at this dump, in plain words (written by the kit's own tools; those that are wanted). The text of a tree, written: lists, and nodes whose word is looked up. The texts of a list of trees, written. The text of a node whose word is looked up, written. The program's Apply and Func. Format, and 'awake'. -/
import Derived.Laws.OwnMore
import Derived.Test.YtokmaehefenpmaaDoorPE8
import Derived.Test.YtokmaehefenpmaaDoorPE14
import Derived.Test.YtokmaehefenpmaaDoorPE3
import Derived.MapKept
import Derived.Carry
import Derived.Shelf.Strings.BuilderK
import Derived.Lib.Builder
import Derived.Test.YtokmaehefenpmaaDoorPE1
import Derived.Shelf.LaysM
import Derived.Shelf.Strconv.Itoa3
import Derived.Test.YtokmaehefenpmaaDoorProg
import Derived.Lib.OthersKept
namespace Go.Proofs.YtokmaehefenpmaaDoor
open Go.RowKit Go.ChangeMaps Go.Proofs.YtokmaehefenpmaaDoor.Nm
set_option linter.unusedSimpArgs false
/-- A row of pairs whose trees lie below B. -/
def SrcE (w : World) (B : Nat) (es : Eqs) (A : Option Addr) : Prop := ∀ i a b, es[i]? = some (a, b) → ∃ bl off Cs t fr rowa rowb, A = some ⟨bl, off, none⟩ ∧ w.heap[bl]? = some (.cells Cs t fr) ∧ Cs.extract (off + i * 8) (off + i * 8 + 4) = rowa ∧ Cs.extract (off + i * 8 + 4) (off + i * 8 + 8) = rowb ∧ TyAt w (fun b => b < B) a rowa ∧ TyAt w (fun b => b < B) b rowb
theorem SrcE.eqs {w : World} {B : Nat} {es : Eqs} {A : Option Addr} {l c : Nat} (h : SrcE w B es A) (hl : es.length = l) (hc : l ≤ c) (hm : c ≤ maxLen) : EqsAt w Any es A l c :=
  ⟨hl, hc, hm, fun i a b hi => by
    obtain ⟨bl, off, Cs, t, fr, rowa, rowb, h1, h3, h4, h5, h6, h7⟩ := h i a b hi
    exact ⟨bl, off, Cs, t, fr, rowa, rowb, h1, trivial, h3, h4, h5, h6.weak fun _ _ => trivial, h7.weak fun _ _ => trivial⟩⟩
theorem EqsAt.src {w : World} {D : Nat → Prop} {B : Nat} {es : Eqs} {A : Option Addr} {l c : Nat} (h : EqsAt w D es A l c) (hD : ∀ b, D b → b < B) : SrcE w B es A := fun i a b hi => by
  obtain ⟨bl, off, Cs, t, fr, rowa, rowb, h1, h2, h3, h4, h5, h6, h7⟩ := h.el i a b hi
  exact ⟨bl, off, Cs, t, fr, rowa, rowb, h1, h3, h4, h5, h6.weak hD, h7.weak hD⟩
theorem SrcE.take {w : World} {B : Nat} {es : Eqs} {A : Option Addr} (h : SrcE w B es A) (k : Nat) : SrcE w B (es.take k) A := fun i a b hi => h i a b (by
  rw [List.getElem?_take] at hi
  split at hi
  · exact hi
  · cases hi)
theorem SrcE.drop {w : World} {B : Nat} {es : Eqs} {bl off : Nat} (h : SrcE w B es (some ⟨bl, off, none⟩)) (k : Nat) : SrcE w B (es.drop k) (some ⟨bl, off + k * 8, none⟩) := fun i a b hi => by
  rw [List.getElem?_drop] at hi
  obtain ⟨bl', off', Cs, t, fr, rowa, rowb, h1, h3, h4, h5, h6, h7⟩ := h _ a b hi
  cases h1
  exact ⟨bl, off + k * 8, Cs, t, fr, rowa, rowb, rfl, h3, by rw [← h4]; congr 1 <;> omega, by rw [← h5]; congr 1 <;> omega, h6, h7⟩
/-- Its cells. -/
theorem SrcE.cells {w : World} {B : Nat} {es : Eqs} {bl off : Nat} (h : SrcE w B es (some ⟨bl, off, none⟩)) (hne : 0 < es.length) : ∃ news : List Value, news.length = es.length * 8 ∧ (∀ j u, news[j]? = some u → w.cell? (Addr.add ⟨bl, off, none⟩ j) = some u) ∧ (∀ u, u ∈ news → u.oneCell' = true) ∧
    ∀ i a b, es[i]? = some (a, b) → TyAt w (fun b => b < B) a ((news.drop (i * 8)).take 4).toArray ∧ TyAt w (fun b => b < B) b ((news.drop (i * 8 + 4)).take 4).toArray := by
  obtain ⟨bl0, off0, Cs, t, fr, rowa, rowb, h1, h3, -⟩ := h 0 _ _ (List.getElem?_eq_getElem hne)
  cases h1
  have hsz : off + es.length * 8 ≤ Cs.size := by
    have hlast : es.length - 1 < es.length := by omega
    obtain ⟨bl1, off1, Cs1, t1, fr1, ra, rb, k1, k3, k4, k5, k6, k7⟩ := h (es.length - 1) _ _ (List.getElem?_eq_getElem hlast)
    cases k1
    rw [h3] at k3
    cases k3
    have := k7.size
    rw [← k5] at this
    simp at this
    omega
  have hpart : ∀ i a b, es[i]? = some (a, b) → ((((Cs.toList.drop off).take (es.length * 8)).drop (i * 8)).take 4).toArray = Cs.extract (off + i * 8) (off + i * 8 + 4) ∧ ((((Cs.toList.drop off).take (es.length * 8)).drop (i * 8 + 4)).take 4).toArray = Cs.extract (off + i * 8 + 4) (off + i * 8 + 8) := fun i a b hi => by
    have hil := (List.getElem?_eq_some_iff.1 hi).1
    have key : ∀ m, m + 4 ≤ es.length * 8 → ((((Cs.toList.drop off).take (es.length * 8)).drop m).take 4).toArray = Cs.extract (off + m) (off + m + 4) := fun m hm => by
      apply Array.ext_getElem?
      intro j
      rw [Array.getElem?_extract]
      simp only [List.getElem?_toArray]
      by_cases hj : j < 4
      · rw [List.getElem?_take_of_lt hj, List.getElem?_drop, List.getElem?_take_of_lt (by omega), List.getElem?_drop, Array.getElem?_toList, if_pos (by omega)]
        congr 1; omega
      · rw [List.getElem?_eq_none (by simp; omega), if_neg (by omega)]
    exact ⟨by rw [key _ (by omega)], by rw [key _ (by omega)]; congr 1 <;> omega⟩
  refine ⟨(Cs.toList.drop off).take (es.length * 8), by simp; omega, fun j u hj => ?_, fun u hu => ?_, fun i a b hi => ?_⟩
  · have hj8 : j < es.length * 8 := by
      have := (List.getElem?_eq_some_iff.1 hj).1
      simp at this; omega
    rw [List.getElem?_take_of_lt hj8, List.getElem?_drop, Array.getElem?_toList] at hj
    rw [Addr.add_mid, cell_of_row _ _ _ _ _ _ h3]
    exact hj
  · obtain ⟨j, hj⟩ := List.mem_iff_getElem?.1 hu
    have hj8 : j < es.length * 8 := by
      have := (List.getElem?_eq_some_iff.1 hj).1
      simp at this; omega
    have hi : j / 8 < es.length := by omega
    obtain ⟨⟨a, b⟩, hab⟩ : ∃ p, es[j / 8]? = some p := ⟨_, List.getElem?_eq_getElem hi⟩
    obtain ⟨bl1, off1, Cs1, t1, fr1, ra, rb, k1, k3, k4, k5, k6, k7⟩ := h (j / 8) a b hab
    cases k1
    rw [h3] at k3
    cases k3
    rw [List.getElem?_take_of_lt hj8, List.getElem?_drop, Array.getElem?_toList] at hj
    have one4 : ∀ {x : Ty} {row : Array Value} {i : Nat} {u : Value}, TyAt w (fun b => b < B) x row → row[i]? = some u → u.oneCell' = true := fun {x row i u} hx hu => by
      obtain ⟨k, s, n, A, l, c, rfl⟩ := row4 hx
      have := Array.mem_of_getElem? hu
      simp [cell4] at this
      rcases this with rfl | rfl | rfl | rfl <;> rfl
    by_cases h4 : j % 8 < 4
    · refine one4 (i := j % 8) k6 ?_
      rw [← k4, Array.getElem?_extract, if_pos (by omega), ← hj]
      congr 1; omega
    · refine one4 (i := j % 8 - 4) k7 ?_
      rw [← k5, Array.getElem?_extract, if_pos (by omega), ← hj]
      congr 1; omega
  · obtain ⟨bl1, off1, Cs1, t1, fr1, ra, rb, k1, k3, k4, k5, k6, k7⟩ := h i a b hi
    cases k1
    rw [h3] at k3
    cases k3
    obtain ⟨g1, g2⟩ := hpart i a b hi
    rw [g1, g2, k4, k5]
    exact ⟨k6, k7⟩
/-- A list of pairs of the call's own, its trees below B. -/
def OwnE (w : World) (B : Nat) (v : Value) (es : Eqs) : Prop := ∃ xs, w.ownsRow B 58 8 v es.length xs ∧ ∀ i a b, es[i]? = some (a, b) → TyAt w (fun b => b < B) a ((xs.drop (i * 8)).take 4).toArray ∧ TyAt w (fun b => b < B) b ((xs.drop (i * 8 + 4)).take 4).toArray
theorem OwnE.lt {w : World} {B : Nat} {v : Value} {es : Eqs} (h : OwnE w B v es) : ∀ b, v.ownBlock = some b → B ≤ b ∧ b < w.heap.size := by
  obtain ⟨xs, h1, -⟩ := h
  exact h1.lt
theorem OwnE.old {w w' : World} {B : Nat} {v : Value} {es : Eqs} (h : OwnE w B v es) (hb : Below w.heap.size w w') : OwnE w' B v es := by
  obtain ⟨xs, h1, h2⟩ := h
  exact ⟨xs, own_same h1 fun q hq _ => hb.block q hq, fun i a b hi => ⟨(h2 i a b hi).1.old hb, (h2 i a b hi).2.old hb⟩⟩
theorem OwnE.keep {w w' : World} {B : Nat} {v : Value} {es : Eqs} (h : OwnE w B v es) {C : Nat → Prop} (hk : Keep C w w') (hC : ∀ b, C b → B ≤ b ∧ v.ownBlock ≠ some b) : OwnE w' B v es := by
  obtain ⟨xs, h1, h2⟩ := h
  exact ⟨xs, own_same h1 fun q hq hv => hk.block q hq (fun hc => (hC q hc).2 hv), fun i a b hi => ⟨(h2 i a b hi).1.keep hk fun b hb hc => by have := (hC b hc).1; omega, (h2 i a b hi).2.keep hk fun b hb hc => by have := (hC b hc).1; omega⟩⟩
/-- Read as a row of pairs. -/
theorem OwnE.src {w : World} {B : Nat} {v : Value} {es : Eqs} (h : OwnE w B v es) : ∃ A c, v = .slice A es.length c ∧ SrcE w B es A ∧ es.length ≤ c ∧ c ≤ maxLen ∧ ∀ a, A = some a → ∃ g, a = ⟨g, 0, none⟩ := by
  obtain ⟨xs, h1, h2⟩ := h
  rcases h1.2 with ⟨rfl, hn⟩ | ⟨g, cap, cur, rfl, hB, hg, hc, hm, hs, hcur⟩
  · have : es = [] := by cases es with | nil => rfl | cons => simp at hn
    subst this
    exact ⟨none, 0, rfl, fun i a b hi => by simp at hi, Nat.le_refl _, Nat.zero_le _, fun a h => by cases h⟩
  · refine ⟨some ⟨g, 0, none⟩, cap, rfl, fun i a b hi => ?_, hc, hm, fun a h => by cases h; exact ⟨g, rfl⟩⟩
    have hil := (List.getElem?_eq_some_iff.1 hi).1
    obtain ⟨k1, k2⟩ := h2 i a b hi
    have hmul : es.length * 8 ≤ cap * 8 := Nat.mul_le_mul_right _ hc
    have key : ∀ m, m + 4 ≤ es.length * 8 → ((xs.drop m).take 4).toArray = cur.extract (0 + m) (0 + m + 4) := fun m hm => by
      apply Array.ext_getElem?
      intro j
      rw [Array.getElem?_extract]
      simp only [List.getElem?_toArray]
      by_cases hj : j < 4
      · rw [List.getElem?_take_of_lt hj, List.getElem?_drop, ← hcur, List.getElem?_take_of_lt (by omega), Array.getElem?_toList, if_pos (by omega)]
        congr 1; omega
      · rw [List.getElem?_eq_none (by simp; omega), if_neg (by omega)]
    rw [key _ (by omega)] at k1 k2
    exact ⟨g, 0, cur, 58, (0, 0), _, _, rfl, hg, rfl, by congr 1 <;> omega, k1, k2⟩
theorem info58b : (Tryd.prog.info? 58).map (fun i => (i.zero, i.size, i.bytes)) = some (some (.agg (cell8 0 ⟨#[]⟩ 0 none 0 0 0 ⟨#[]⟩ 0 none 0 0)), 8, 112) := by kernel_rfl
/-- An append of a row of pairs. -/
theorem run_catE {w : World} {B : Nat} {v : Value} {es fs : Eqs} (oty : TypeId) (h : OwnE w B v es) {A : Option Addr} {c : Nat} (hs : SrcE w B fs A) (hn : es.length + fs.length ≤ 1000000) (hB : B ≤ w.heap.size) (hAn : A = none → fs = [] ∧ c = 0) :
    ∃ v' w', (Builtin.append_ #[53, 53] oty #[v, .slice A fs.length c]).run Tryd.prog w = .ok v' w' ∧ OwnE w' B v' (es ++ fs) ∧ Keep (fun b => v.ownBlock = some b) w w' ∧ (v'.ownBlock = v.ownBlock ∨ v'.ownBlock = some w.heap.size) := by
  obtain ⟨i0, hi, hz0, hz1, hz2⟩ := info_parts info58b
  obtain ⟨xs, h1, h2⟩ := h
  have fin : ∀ {v' : Value} {w' : World} {news : List Value}, news.length = fs.length * 8 → (∀ i a b, fs[i]? = some (a, b) → TyAt w (fun b => b < B) a ((news.drop (i * 8)).take 4).toArray ∧ TyAt w (fun b => b < B) b ((news.drop (i * 8 + 4)).take 4).toArray) → w'.ownsRow B 58 8 v' (es.length + fs.length) (xs ++ news) → w.grownBy w' v.ownBlock → OwnE w' B v' (es ++ fs) := fun {v' w' news} hl hn ho hg => by
    have hxs : xs.length = es.length * 8 := h1.1
    have key : ∀ {x : Ty} {row : Array Value}, TyAt w (fun b => b < B) x row → TyAt w' (fun b => b < B) x row := fun h => h.mono (fun _ h => h) fun b hb => hg.block b (by omega) (fun e => by have := (h1.lt b e.symm).1; omega)
    refine ⟨xs ++ news, by rw [List.length_append]; exact ho, fun i a b hi => ?_⟩
    rcases Nat.lt_or_ge i es.length with hlt | hge
    · rw [List.getElem?_append_left hlt] at hi
      obtain ⟨k1, k2⟩ := h2 i a b hi
      rw [List.drop_append_of_le_length (by omega), List.drop_append_of_le_length (by omega), List.take_append_of_le_length (by simp; omega), List.take_append_of_le_length (by simp; omega)]
      exact ⟨key k1, key k2⟩
    · rw [List.getElem?_append_right hge] at hi
      obtain ⟨k1, k2⟩ := hn _ a b hi
      rw [List.drop_append, List.drop_append, List.drop_of_length_le (show xs.length ≤ i * 8 by omega), List.drop_of_length_le (show xs.length ≤ i * 8 + 4 by omega), List.nil_append, List.nil_append]
      rw [show i * 8 - xs.length = (i - es.length) * 8 by omega, show i * 8 + 4 - xs.length = (i - es.length) * 8 + 4 by omega]
      exact ⟨key k1, key k2⟩
  have keepOf : ∀ {w' : World}, w.grownBy w' v.ownBlock → Keep (fun b => v.ownBlock = some b) w w' := fun hg => ⟨hg.os, hg.tape, hg.output, hg.size, fun b hb hne => hg.block b hb (fun e => hne e.symm)⟩
  have rest : ∀ (a : Addr) (news : List Value), A = some a → news.length = fs.length * 8 → (∀ j u, news[j]? = some u → w.cell? (a.add j) = some u) → (∀ u, u ∈ news → u.oneCell' = true) → (∀ i a b, fs[i]? = some (a, b) → TyAt w (fun b => b < B) a ((news.drop (i * 8)).take 4).toArray ∧ TyAt w (fun b => b < B) b ((news.drop (i * 8 + 4)).take 4).toArray) →
      ∃ v' w', (Builtin.append_ #[53, 53] oty #[v, .slice A fs.length c]).run Tryd.prog w = .ok v' w' ∧ OwnE w' B v' (es ++ fs) ∧ Keep (fun b => v.ownBlock = some b) w w' ∧ (v'.ownBlock = v.ownBlock ∨ v'.ownBlock = some w.heap.size) := fun a news hAe hl hc h1' hn' => by
    subst hAe
    obtain ⟨v', w', hr, g2, g3, -, g5⟩ := run_append_own_at (P := Tryd.prog) w B 53 oty 58 i0 _ 8 112 u53 hi hz0 hz1 hz2 rfl (by decide) v es.length xs h1 a fs.length c news hl hc h1' (by unfold maxLen; omega) (by omega) hB
    exact ⟨v', w', hr, fin hl hn' g2 g3, keepOf g3, g5⟩
  by_cases hf : fs = []
  · subst hf
    cases A with
    | none =>
      obtain rfl := (hAn rfl).2
      have hr := run_append_owned_none (P := Tryd.prog) w B 53 oty 58 i0 8 u53 hi v es.length xs h1
      exact ⟨v, w, hr, by rw [List.append_nil]; exact ⟨xs, h1, h2⟩, Keep.refl _ _, .inl rfl⟩
    | some a => exact rest a [] rfl rfl (fun j u h => by simp at h) (fun u h => by simp at h) (fun i a b h => by simp at h)
  · have hne : 0 < fs.length := List.length_pos_iff.2 hf
    obtain ⟨bl, off, Cs, t, fr, rowa, rowb, hAe, -⟩ := hs 0 _ _ (List.getElem?_eq_getElem hne)
    subst hAe
    obtain ⟨news, g1, g2, g3, g4⟩ := hs.cells hne
    exact rest _ news rfl g1 g2 g3 g4
section
variable {ops : Array Oper} {rest : List Oper} {o : Oper} {a : Act} {w : World} {Q : Exit → Act → World → Prop}
theorem wl_catE (hg : o.guard = none) (s x : Operand) (ho : o.op = .call { callee := .builtin .append, args := #[s, x], argTypes := #[53, 53] }) {B : Nat} {v : Value} {es fs : Eqs} {A : Option Addr} {m c : Nat}
    (hs : a.eval s = v) (hx : a.eval x = .slice A m c) (h : OwnE w B v es) (hsrc : SrcE w B fs A) (hm : fs.length = m) (hAn : A = none → fs = [] ∧ c = 0) (hn : es.length + fs.length ≤ 1000000) (hB : B ≤ w.heap.size)
    (hK : ∀ v' w', OwnE w' B v' (es ++ fs) → Keep (fun b => v.ownBlock = some b) w w' → (v'.ownBlock = v.ownBlock ∨ v'.ownBlock = some w.heap.size) → wpList Tryd.prog ops Q rest (a.put o.dst v') w') : wpList Tryd.prog ops Q (o :: rest) a w := by
  subst hm
  obtain ⟨v', w', hr, h2, h3, h4⟩ := run_catE o.type h hsrc hn hB hAn
  refine wl_w hg ?_ (hK v' w' h2 h3 h4)
  unfold execOp
  simp only [ho, resolve, invoke, builtin, Sem.run_bind, Sem.run_pure, Result.andThen_ok, List.map_toArray, List.map_cons, List.map_nil, hs, hx, hr]
end
section
variable {md : Region.Mode} {ops : Array Oper} {Q : Exit → Act → World → Prop} {S : World → Prop} {fuel : Nat} {listed : Array Bool} {a : Act} {w : World} {i : Nat} {oi : Oper}
theorem ha_catE (hr : Region.ready md ops listed = [i]) (ho : ops[i]? = some oi) (hg : Region.wanted oi (yielded ops a.tmps) = true) (s x : Operand) (hop : oi.op = .call { callee := .builtin .append, args := #[s, x], argTypes := #[53, 53] }) {B : Nat} {v : Value} {es fs : Eqs} {A : Option Addr} {m c : Nat}
    (hs : a.eval s = v) (hx : a.eval x = .slice A m c) (h : OwnE w B v es) (hsrc : SrcE w B fs A) (hm : fs.length = m) (hAn : A = none → fs = [] ∧ c = 0) (hn : es.length + fs.length ≤ 1000000) (hB : B ≤ w.heap.size)
    (hS : ∀ w', Keep (fun b => v.ownBlock = some b) w w' → S w')
    (hK : ∀ v' w', OwnE w' B v' (es ++ fs) → Keep (fun b => v.ownBlock = some b) w w' → (v'.ownBlock = v.ownBlock ∨ v'.ownBlock = some w.heap.size) → S w' → wpAnyH Tryd.prog md ops Q S fuel (listed.setIfInBounds i true) (a.put oi.dst v') w') : wpAnyH Tryd.prog md ops Q S (fuel + 1) listed a w := by
  subst hm
  obtain ⟨v', w', hx2, h2, h3, h4⟩ := run_catE oi.type h hsrc hn hB hAn
  refine ha_do hr ho hg (w2 := w') (v := v') ?_ (hS w' h3) (hK v' w' h2 h3 h4 (hS w' h3))
  unfold execOp
  simp only [hop, resolve, invoke, builtin, Sem.run_bind, Sem.run_pure, Result.andThen_ok, List.map_toArray, List.map_cons, List.map_nil, hs, hx, hx2]
end
open Go.RowKit Go.ChangeMaps Go.Proofs.YtokmaehefenpmaaDoor.Nm
set_option linter.unusedSimpArgs false
theorem run_bs1 (k : Int) (s : ByteArray) (n : Int) (A : Option Addr) (l c : Nat) (k' : Int) (s' : ByteArray) (n' : Int) (A' : Option Addr) (l' c' : Nat) (w : World) : (Instr.buildSlice 53 1 #[(0, .agg (cell8 k s n A l c k' s' n' A' l' c'))]).run Tryd.prog w = .ok (.slice (some ⟨w.heap.size, 0, none⟩) 1 1) (w.alloc (.cells (cell8 k s n A l c k' s' n' A' l' c') 58)) := by kernel_rfl
theorem own_nil (w : World) (B : Nat) : OwnE w B (.slice none 0 0) [] := ⟨[], World.ownsRow_nil _ _ _ _, fun i a b h => by simp at h⟩
theorem src_one {w : World} {B p : Nat} {k : Int} {s : ByteArray} {n : Int} {A : Option Addr} {l c : Nat} {k' : Int} {s' : ByteArray} {n' : Int} {A' : Option Addr} {l' c' : Nat} {t u : Ty} (hp : w.heap[p]? = some (.cells (cell8 k s n A l c k' s' n' A' l' c') 58 (0, 0))) (ht : TyAt w (fun b => b < B) t (cell4 k s n A l c)) (hu : TyAt w (fun b => b < B) u (cell4 k' s' n' A' l' c')) : SrcE w B [(t, u)] (some ⟨p, 0, none⟩) := fun i a b hi => by
  rcases i with _ | i
  · cases hi
    exact ⟨p, 0, _, _, _, _, _, rfl, hp, rfl, rfl, ht, hu⟩
  · simp at hi
theorem run_lo {A : Option Addr} {l c k : Nat} (hk : k ≤ l) (w : World) : (Instr.slice 53 (.slice A l c) (some (.int .i64 (k : Int))) none none).run Tryd.prog w = .ok (.slice (if c = k then A else A.map (·.add (k * 8))) (l - k) (c - k)) w := by
  have h0 : (0 : Int) ≤ (k : Int) := by omega
  have h1 : (k : Int) ≤ (l : Int) := by omega
  have hz : (sizeOf 58).run Tryd.prog w = .ok 8 w := by kernel_rfl
  unfold Instr.slice Instr.sliceBounds
  simp [Sem.run_bind, run_underlying u53, run_sliceBound w .i64 (k : Int) l _ h0 h1, Result.andThen, hz]
theorem run_at (x : Value) (lo hi mx : Option Value) (w : World) : (Instr.sliceAt 53 x lo hi mx).run Tryd.prog w = (Instr.slice 53 x lo hi mx).run Tryd.prog w := by
  unfold Instr.sliceAt
  simp [Sem.run_bind, run_underlying u53, Result.andThen]
/-- What is left behind place k. -/
theorem SrcE.lo {w : World} {B : Nat} {es : Eqs} {A : Option Addr} {c k : Nat} (h : SrcE w B es A) (hc : es.length ≤ c) (hg : ∀ a, A = some a → ∃ g, a = ⟨g, 0, none⟩) : SrcE w B (es.drop k) (if c = k then A else A.map (·.add (k * 8))) := by
  by_cases e : c = k
  · rw [if_pos e, List.drop_of_length_le (by omega)]
    exact fun i a b h => by simp at h
  · rw [if_neg e]
    cases A with
    | none =>
      cases hd : es.drop k with
      | nil => exact fun i a b h => by simp at h
      | cons p l =>
        have hl : 0 < es.length := by
          have := congrArg List.length hd
          simp at this; omega
        obtain ⟨bl, off, Cs, t, fr, rowa, rowb, hAe, -⟩ := h 0 _ _ (List.getElem?_eq_getElem hl)
        cases hAe
    | some a =>
      obtain ⟨g, rfl⟩ := hg a rfl
      have := h.drop k
      rw [Option.map_some, Addr.add_mid]
      exact this
section
variable {ops : Array Oper} {rest : List Oper} {dst : Option Tmp} {ty ty' : TypeId} {x y : Operand} {pos : String} {after : Array Edge} {a : Act} {w : World} {Q : Exit → Act → World → Prop}
theorem wl_bs1 {k : Int} {s : ByteArray} {n : Int} {A : Option Addr} {l c : Nat} {k' : Int} {s' : ByteArray} {n' : Int} {A' : Option Addr} {l' c' : Nat} (hx : a.eval x = .agg (cell8 k s n A l c k' s' n' A' l' c')) (h : ∀ W p, Below w.heap.size w W → w.heap.size ≤ p → W.heap[p]? = some (.cells (cell8 k s n A l c k' s' n' A' l' c') 58 (0, 0)) → wpList Tryd.prog ops Q rest (a.put dst (.slice (some ⟨p, 0, none⟩) 1 1)) W) : wpList Tryd.prog ops Q (⟨dst, .buildSlice 53 1 #[(0, x)], ty', pos, after, none⟩ :: rest) a w :=
  wl_w rfl (by unfold execOp; have := run_bs1 k s n A l c k' s' n' A' l' c' w; simp [hx, this, Result.andThen]) (h _ _ ((Below.refl _ w).alloc (Nat.le_refl _) _) (Nat.le_refl _) (ha_new rfl))
end
section
variable {md : Region.Mode} {ops : Array Oper} {Q : Exit → Act → World → Prop} {S : World → Prop} {fuel : Nat} {listed : Array Bool} {a : Act} {w : World} {i : Nat} {oi : Oper}
theorem ex_lo {ev : Operand → Value} {o : Oper} (x y : Operand) (ho : o.op = .slice 53 x (some y) none none) {A : Option Addr} {l c k : Nat} (hx : ev x = .slice A l c) (hy : ev y = .int .i64 (k : Int)) (hk : k ≤ l) (w : World) : (execOp ev o).run Tryd.prog w = .ok (.value (.slice (if c = k then A else A.map (·.add (k * 8))) (l - k) (c - k))) w := by
  unfold execOp
  have := run_lo (A := A) (c := c) hk w
  simp [ho, hx, hy, run_at, this, Result.andThen]
end
open Go.RowKit Go.ChangeMaps Go.Proofs.YtokmaehefenpmaaDoor.Nm
/-- The same equations, but for the order and the sides. -/
def SameE (es fs : Eqs) : Prop := (∀ p, p ∈ es → p ∈ fs ∨ (p.2, p.1) ∈ fs) ∧ ∀ p, p ∈ fs → p ∈ es ∨ (p.2, p.1) ∈ es
theorem SameE.refl (es : Eqs) : SameE es es := ⟨fun _ h => .inl h, fun _ h => .inl h⟩
theorem SameE.step {es os ls : Eqs} (h : SameE es (os ++ ls)) {k : Nat} {t u : Ty} (hk : ls[k]? = some (t, u)) {x : Ty × Ty} (hx : x = (t, u) ∨ x = (u, t)) : SameE es ((os ++ [x]) ++ (ls.take k ++ ls.drop (k + 1))) := by
  obtain ⟨hl, he⟩ := List.getElem?_eq_some_iff.1 hk
  have hm : ∀ p, p ∈ ls ↔ p ∈ ls.take k ∨ p = (t, u) ∨ p ∈ ls.drop (k + 1) := fun p => by
    have e : ls = ls.take k ++ (t, u) :: ls.drop (k + 1) := by
      conv => lhs; rw [← List.take_append_drop k ls, List.drop_eq_getElem_cons hl, he]
    conv => lhs; rw [e]
    simp
  constructor
  · intro p hp
    have key : ∀ p, p ∈ os ++ ls → p ∈ (os ++ [x]) ++ (ls.take k ++ ls.drop (k + 1)) ∨ (p.2, p.1) ∈ (os ++ [x]) ++ (ls.take k ++ ls.drop (k + 1)) := fun p hp => by
      rcases List.mem_append.1 hp with hp | hp
      · left; simp [hp]
      · rcases (hm p).1 hp with hp | rfl | hp
        · left; simp [hp]
        · rcases hx with rfl | rfl
          · left; simp
          · right; simp
        · left; simp [hp]
    rcases h.1 p hp with hp | hp
    · exact key p hp
    · rcases key _ hp with h | h
      · exact .inr h
      · exact .inl h
  · intro p hp
    have key : p ∈ os ++ ls ∨ (p.2, p.1) ∈ os ++ ls := by
      simp only [List.mem_append, List.mem_singleton] at hp
      rcases hp with (hp | rfl) | (hp | hp)
      · left; simp [hp]
      · rcases hx with rfl | rfl
        · left; exact List.mem_append.2 (.inr ((hm _).2 (.inr (.inl rfl))))
        · right; exact List.mem_append.2 (.inr ((hm _).2 (.inr (.inl rfl))))
      · left; exact List.mem_append.2 (.inr ((hm _).2 (.inl hp)))
      · left; exact List.mem_append.2 (.inr ((hm _).2 (.inr (.inr hp))))
    rcases key with hp | hp
    · exact h.2 p hp
    · rcases h.2 _ hp with h | h
      · exact .inr h
      · exact .inl h
theorem SameE.opn {es fs : Eqs} (h : SameE es fs) : OpenE es ↔ OpenE fs := by
  constructor
  · intro ho p hp
    rcases h.2 p hp with h | h
    · exact ho p h
    · exact ⟨(ho _ h).2, (ho _ h).1⟩
  · intro ho p hp
    rcases h.1 p hp with h | h
    · exact ho p h
    · exact ⟨(ho _ h).2, (ho _ h).1⟩
theorem most_least {b : Int} : ∀ (es : Eqs) (a : Int), OpenE es → a ≤ b → (∀ p, p ∈ es → ∀ v : Nat, p.1.occ v = true ∨ p.2.occ v = true → (v : Int) ≤ b) → es.foldl (fun a p => most1 (most1 a p.1) p.2) a ≤ b
  | [], a, _, ha, _ => ha
  | (t, u) :: es, a, ho, ha, hv => by
    have one : ∀ (x : Ty) (a : Int), validB true x = true → a ≤ b → (∀ v : Nat, x.occ v = true → (v : Int) ≤ b) → most1 a x ≤ b := fun x a hx ha hv => (foldl_max _ _).2.2 b ha fun z hz => by
      obtain ⟨h1, h2⟩ := open_vars hx z hz
      have e : z = ((z.toNat : Nat) : Int) := by omega
      rw [e]
      refine hv _ ?_
      rw [← vars_has, List.contains_iff_mem, ← e]
      exact hz
    have h0 := ho (t, u) (by simp)
    simp only [List.foldl_cons]
    exact most_least es _ (fun p hp => ho p (by simp [hp])) (one u _ h0.2 (one t a h0.1 ha fun v h => hv (t, u) (by simp) v (.inl h)) fun v h => hv (t, u) (by simp) v (.inr h)) fun p hp => hv p (by simp [hp])
theorem SameE.most {es fs : Eqs} (h : SameE es fs) (ho : OpenE es) : mostE fs ≤ mostE es := by
  obtain ⟨h1, h2, h3⟩ := most_run es (-1) ho (by omega)
  refine most_least fs (-1) (h.opn.1 ho) h1 fun p hp v hv => ?_
  rcases h.2 p hp with h | h
  · exact h3 p h v hv
  · exact h3 _ h v hv.symm
theorem SameE.symm {es fs : Eqs} (h : SameE es fs) : SameE fs es := ⟨h.2, h.1⟩
theorem SameE.mOf {es fs : Eqs} (h : SameE es fs) (ho : OpenE es) : mOf fs = mOf es := by
  have h1 := h.most ho
  have h2 := h.symm.most (h.opn.1 ho)
  unfold YtokmaehefenpmaaDoor.mOf
  rw [show mostE fs = mostE es by omega]
open Go.RowKit Go.Proofs.YtokmaehefenpmaaDoor.Nm
set_option linter.unusedSimpArgs false
set_option maxHeartbeats 4000000 in
set_option maxRecDepth 100000 in
theorem shaped_int (op : Bool) (w : World) (D : Nat → Prop) (row : Array Value) (h : TyAt w D (.node 1 ⟨#[]⟩ 0 []) row) :
    Calls Tryd.prog 104 #[.agg row, .bool op] w fun e w' => e = .returned (.bool true) ∧ Below w.heap.size w w' := by
  obtain ⟨k, s, n, A, l, c, ts, he, rfl, -, -, -, hT⟩ := h.parts
  cases he
  have hl : l = 0 := by have := hT.len; simp at this; omega
  subst hl
  clear h hT
  have hb := Below.refl w.heap.size w
  go_enter Tryd.func104, Tryd.ntmps104
  go_upto_region 0 with (fail)
  apply wp_region_lit
  (with_reducible refine wl_box rfl ?_); intro W p hbn hlp hp; replace hb := hb.trans (hbn.mono hb.size); clear hbn; simp only [Zq]
  (with_reducible refine wl_k ?_ ?_); exact rfl; intro K hK; go_simp; refine hK _ ?_; clear hK K
  go_upto_region 1 with (fail)
  apply wp_region_lit
  (with_reducible refine wl_k ?_ ?_); exact rfl; intro K hK; go_simp; refine hK _ ?_; clear hK K
  (first | ((with_reducible apply wl_oneG); exact rfl; exact rfl; first | exact f0 (by with_reducible assumption) | exact f1 (by with_reducible assumption) | exact f2 (by with_reducible assumption) | exact f3 (by with_reducible assumption) | with_reducible assumption | exact g22 (by with_reducible assumption) | exact g25 (by with_reducible assumption)) | ((with_reducible apply wl_rowG); exact rfl; exact rfl; first | with_reducible assumption | exact RowK.now (by with_reducible assumption) | exact f4 (by with_reducible assumption)))
  (with_reducible refine wl_k ?_ ?_); exact rfl; intro K hK; go_simp; refine hK _ ?_; clear hK K
  (with_reducible refine wl_k ?_ ?_); exact rfl; intro K hK; go_simp; refine hK _ ?_; clear hK K
  go_upto_region 2 with (fail)
  apply wp_region_lit
  (with_reducible refine wl_k ?_ ?_); exact rfl; intro K hK; go_simp; refine hK _ ?_; clear hK K
  (first | ((with_reducible apply wl_oneG); exact rfl; exact rfl; first | exact f0 (by with_reducible assumption) | exact f1 (by with_reducible assumption) | exact f2 (by with_reducible assumption) | exact f3 (by with_reducible assumption) | with_reducible assumption | exact g22 (by with_reducible assumption) | exact g25 (by with_reducible assumption)) | ((with_reducible apply wl_rowG); exact rfl; exact rfl; first | with_reducible assumption | exact RowK.now (by with_reducible assumption) | exact f4 (by with_reducible assumption)))
  (with_reducible refine wl_k ?_ ?_); exact rfl; intro K hK; go_simp; refine hK _ ?_; clear hK K
  go_upto_region 4 with (fail)
  apply wp_region_lit
  (with_reducible refine wl_k ?_ ?_); exact rfl; intro K hK; go_simp; refine hK _ ?_; clear hK K
  (first | ((with_reducible apply wl_oneG); exact rfl; exact rfl; first | exact f0 (by with_reducible assumption) | exact f1 (by with_reducible assumption) | exact f2 (by with_reducible assumption) | exact f3 (by with_reducible assumption) | with_reducible assumption | exact g22 (by with_reducible assumption) | exact g25 (by with_reducible assumption)) | ((with_reducible apply wl_rowG); exact rfl; exact rfl; first | with_reducible assumption | exact RowK.now (by with_reducible assumption) | exact f4 (by with_reducible assumption)))
  (with_reducible refine wl_k ?_ ?_); exact rfl; intro K hK; go_simp; refine hK _ ?_; clear hK K
  go_upto_region 6 with (fail)
  apply wp_region_lit
  (with_reducible refine wl_k ?_ ?_); exact rfl; intro K hK; go_simp; refine hK _ ?_; clear hK K
  (first | ((with_reducible apply wl_oneG); exact rfl; exact rfl; first | exact f0 (by with_reducible assumption) | exact f1 (by with_reducible assumption) | exact f2 (by with_reducible assumption) | exact f3 (by with_reducible assumption) | with_reducible assumption | exact g22 (by with_reducible assumption) | exact g25 (by with_reducible assumption)) | ((with_reducible apply wl_rowG); exact rfl; exact rfl; first | with_reducible assumption | exact RowK.now (by with_reducible assumption) | exact f4 (by with_reducible assumption)))
  go_upto_region 7 with (fail)
  apply wp_region_lit
  (with_reducible refine wl_k ?_ ?_); exact rfl; intro K hK; go_simp; refine hK _ ?_; clear hK K
  (with_reducible refine wl_k ?_ ?_); exact rfl; intro K hK; go_simp; refine hK _ ?_; clear hK K
  go_upto_region 11 with (fail)
  apply wp_region_lit
  (with_reducible refine wl_k ?_ ?_); exact rfl; intro K hK; go_simp; refine hK _ ?_; clear hK K
  (with_reducible refine wl_k ?_ ?_); exact rfl; intro K hK; go_simp; refine hK _ ?_; clear hK K
  (with_reducible refine wl_k ?_ ?_); exact rfl; intro K hK; go_simp; refine hK _ ?_; clear hK K
  (with_reducible refine wl_k ?_ ?_); exact rfl; intro K hK; go_simp; refine hK _ ?_; clear hK K
  (first | ((with_reducible apply wl_oneG); exact rfl; exact rfl; first | exact f0 (by with_reducible assumption) | exact f1 (by with_reducible assumption) | exact f2 (by with_reducible assumption) | exact f3 (by with_reducible assumption) | with_reducible assumption | exact g22 (by with_reducible assumption) | exact g25 (by with_reducible assumption)) | ((with_reducible apply wl_rowG); exact rfl; exact rfl; first | with_reducible assumption | exact RowK.now (by with_reducible assumption) | exact f4 (by with_reducible assumption)))
  (with_reducible refine wl_k ?_ ?_); exact rfl; intro K hK; go_simp; refine hK _ ?_; clear hK K
  (with_reducible refine wl_k ?_ ?_); exact rfl; intro K hK; go_simp; refine hK _ ?_; clear hK K
  (with_reducible refine wl_k ?_ ?_); exact rfl; intro K hK; go_simp; refine hK _ ?_; clear hK K
  clear hp
  go_wp2_with fail
  go_ret
  exact ⟨rfl, hb⟩
set_option maxHeartbeats 4000000 in
set_option maxRecDepth 100000 in
theorem shaped_arr (op : Bool) (t : Ty) (w : World) (D : Nat → Prop) (row : Array Value) (h : TyAt w D (.node 5 ⟨#[]⟩ 0 [t]) row) :
    Calls Tryd.prog 104 #[.agg row, .bool op] w fun e w' => e = .returned (.bool true) ∧ Below w.heap.size w w' := by
  obtain ⟨k, s, n, A, l, c, ts, he, rfl, -, -, -, hT⟩ := h.parts
  cases he
  have hl : l = 1 := by have := hT.len; simp at this; omega
  subst hl
  clear h hT
  have hb := Below.refl w.heap.size w
  go_enter Tryd.func104, Tryd.ntmps104
  go_upto_region 0 with (fail)
  apply wp_region_lit
  (with_reducible refine wl_box rfl ?_); intro W p hbn hlp hp; replace hb := hb.trans (hbn.mono hb.size); clear hbn; simp only [Zq]
  (with_reducible refine wl_k ?_ ?_); exact rfl; intro K hK; go_simp; refine hK _ ?_; clear hK K
  go_upto_region 1 with (fail)
  apply wp_region_lit
  (with_reducible refine wl_k ?_ ?_); exact rfl; intro K hK; go_simp; refine hK _ ?_; clear hK K
  (first | ((with_reducible apply wl_oneG); exact rfl; exact rfl; first | exact f0 (by with_reducible assumption) | exact f1 (by with_reducible assumption) | exact f2 (by with_reducible assumption) | exact f3 (by with_reducible assumption) | with_reducible assumption | exact g22 (by with_reducible assumption) | exact g25 (by with_reducible assumption)) | ((with_reducible apply wl_rowG); exact rfl; exact rfl; first | with_reducible assumption | exact RowK.now (by with_reducible assumption) | exact f4 (by with_reducible assumption)))
  (with_reducible refine wl_k ?_ ?_); exact rfl; intro K hK; go_simp; refine hK _ ?_; clear hK K
  (with_reducible refine wl_k ?_ ?_); exact rfl; intro K hK; go_simp; refine hK _ ?_; clear hK K
  go_upto_region 2 with (fail)
  apply wp_region_lit
  (with_reducible refine wl_k ?_ ?_); exact rfl; intro K hK; go_simp; refine hK _ ?_; clear hK K
  (first | ((with_reducible apply wl_oneG); exact rfl; exact rfl; first | exact f0 (by with_reducible assumption) | exact f1 (by with_reducible assumption) | exact f2 (by with_reducible assumption) | exact f3 (by with_reducible assumption) | with_reducible assumption | exact g22 (by with_reducible assumption) | exact g25 (by with_reducible assumption)) | ((with_reducible apply wl_rowG); exact rfl; exact rfl; first | with_reducible assumption | exact RowK.now (by with_reducible assumption) | exact f4 (by with_reducible assumption)))
  (with_reducible refine wl_k ?_ ?_); exact rfl; intro K hK; go_simp; refine hK _ ?_; clear hK K
  go_upto_region 4 with (fail)
  apply wp_region_lit
  (with_reducible refine wl_k ?_ ?_); exact rfl; intro K hK; go_simp; refine hK _ ?_; clear hK K
  (first | ((with_reducible apply wl_oneG); exact rfl; exact rfl; first | exact f0 (by with_reducible assumption) | exact f1 (by with_reducible assumption) | exact f2 (by with_reducible assumption) | exact f3 (by with_reducible assumption) | with_reducible assumption | exact g22 (by with_reducible assumption) | exact g25 (by with_reducible assumption)) | ((with_reducible apply wl_rowG); exact rfl; exact rfl; first | with_reducible assumption | exact RowK.now (by with_reducible assumption) | exact f4 (by with_reducible assumption)))
  (with_reducible refine wl_k ?_ ?_); exact rfl; intro K hK; go_simp; refine hK _ ?_; clear hK K
  go_upto_region 6 with (fail)
  apply wp_region_lit
  (with_reducible refine wl_k ?_ ?_); exact rfl; intro K hK; go_simp; refine hK _ ?_; clear hK K
  (first | ((with_reducible apply wl_oneG); exact rfl; exact rfl; first | exact f0 (by with_reducible assumption) | exact f1 (by with_reducible assumption) | exact f2 (by with_reducible assumption) | exact f3 (by with_reducible assumption) | with_reducible assumption | exact g22 (by with_reducible assumption) | exact g25 (by with_reducible assumption)) | ((with_reducible apply wl_rowG); exact rfl; exact rfl; first | with_reducible assumption | exact RowK.now (by with_reducible assumption) | exact f4 (by with_reducible assumption)))
  go_upto_region 7 with (fail)
  apply wp_region_lit
  (with_reducible refine wl_k ?_ ?_); exact rfl; intro K hK; go_simp; refine hK _ ?_; clear hK K
  (with_reducible refine wl_k ?_ ?_); exact rfl; intro K hK; go_simp; refine hK _ ?_; clear hK K
  go_upto_region 8 with (fail)
  apply wp_region_lit
  (with_reducible refine wl_k ?_ ?_); exact rfl; intro K hK; go_simp; refine hK _ ?_; clear hK K
  (with_reducible refine wl_k ?_ ?_); exact rfl; intro K hK; go_simp; refine hK _ ?_; clear hK K
  go_upto_region 9 with (fail)
  apply wp_region_lit
  (with_reducible refine wl_k ?_ ?_); exact rfl; intro K hK; go_simp; refine hK _ ?_; clear hK K
  (with_reducible refine wl_k ?_ ?_); exact rfl; intro K hK; go_simp; refine hK _ ?_; clear hK K
  go_upto_region 10 with (fail)
  apply wp_region_lit
  (with_reducible refine wl_k ?_ ?_); exact rfl; intro K hK; go_simp; refine hK _ ?_; clear hK K
  (with_reducible refine wl_k ?_ ?_); exact rfl; intro K hK; go_simp; refine hK _ ?_; clear hK K
  go_upto_region 12 with (fail)
  apply wp_region_lit
  (with_reducible refine wl_k ?_ ?_); exact rfl; intro K hK; go_simp; refine hK _ ?_; clear hK K
  (with_reducible refine wl_k ?_ ?_); exact rfl; intro K hK; go_simp; refine hK _ ?_; clear hK K
  go_upto_region 14 with (fail)
  apply wp_region_lit
  (with_reducible refine wl_k ?_ ?_); exact rfl; intro K hK; go_simp; refine hK _ ?_; clear hK K
  (with_reducible refine wl_k ?_ ?_); exact rfl; intro K hK; go_simp; refine hK _ ?_; clear hK K
  (with_reducible refine wl_k ?_ ?_); exact rfl; intro K hK; go_simp; refine hK _ ?_; clear hK K
  (with_reducible refine wl_k ?_ ?_); exact rfl; intro K hK; go_simp; refine hK _ ?_; clear hK K
  (first | ((with_reducible apply wl_oneG); exact rfl; exact rfl; first | exact f0 (by with_reducible assumption) | exact f1 (by with_reducible assumption) | exact f2 (by with_reducible assumption) | exact f3 (by with_reducible assumption) | with_reducible assumption | exact g22 (by with_reducible assumption) | exact g25 (by with_reducible assumption)) | ((with_reducible apply wl_rowG); exact rfl; exact rfl; first | with_reducible assumption | exact RowK.now (by with_reducible assumption) | exact f4 (by with_reducible assumption)))
  (with_reducible refine wl_k ?_ ?_); exact rfl; intro K hK; go_simp; refine hK _ ?_; clear hK K
  (with_reducible refine wl_k ?_ ?_); exact rfl; intro K hK; go_simp; refine hK _ ?_; clear hK K
  (with_reducible refine wl_k ?_ ?_); exact rfl; intro K hK; go_simp; refine hK _ ?_; clear hK K
  clear hp
  go_wp2_with fail
  go_ret
  exact ⟨rfl, hb⟩
def intTy : Ty := .node 1 ⟨#[]⟩ 0 []
def arrTy : Ty := .node 5 ⟨#[]⟩ 0 [intTy]
def Two (t : Ty) : Prop := t = intTy ∨ t = arrTy
theorem two_sub : ∀ k s n l, Two (.node k s n l) → ∀ u, u ∈ l → Two u := fun k s n l h u hu => by
  rcases h with h | h
  · cases h; cases hu
  · cases h; simp at hu; exact Or.inl hu
theorem two_sh (op : Bool) (t : Ty) (h : Two t) : ShC op (fun _ => true) t := fun w D row ht => by
  rcases h with rfl | rfl
  · exact shaped_int op w D row ht
  · exact shaped_arr op intTy w D row ht
/-- The operations of a region, by its number. -/
def regionOf (n : Nat) : Code → Option (Array Oper)
  | .region id ops _ => if id = n then some ops else none
  | .seq a b => match regionOf n a with | some x => some x | none => regionOf n b
  | .cond _ a b => match regionOf n a with | some x => some x | none => regionOf n b
  | .block _ a => regionOf n a
  | .loop a => regionOf n a
  | .scope a => regionOf n a
  | _ => none
noncomputable def opsW : Array Oper := (Tryd.f60.body.bind (regionOf 1)).getD #[]
def eL : List Nat := [1, 2, 3, 4, 5, 6, 9, 13, 17, 20, 21, 22]
def qL (p : Nat → Bool) (i : Nat) : Bool := if i ∈ eL then p i else decide (i < 23)
def listedOf (p : Nat → Bool) : Array Bool := ((List.range 25).map (qL p)).toArray
def upd (p : Nat → Bool) (i : Nat) : Nat → Bool := fun j => j == i || p j
def cnt (p : Nat → Bool) : Nat := (eL.filter fun i => !p i).length
theorem listedOf_size (p : Nat → Bool) : (listedOf p).size = 25 := by simp [listedOf]
theorem listedOf_get (p : Nat → Bool) {i : Nat} (hi : i < 25) : (listedOf p)[i]? = some (qL p i) := by simp [listedOf, hi]
theorem listedOf_getD (p : Nat → Bool) {i : Nat} (hi : i < 25) (d : Bool) : (listedOf p).getD i d = qL p i := by
  simp [listedOf_get p hi]
theorem listedOf_past (p : Nat → Bool) {i : Nat} (hi : 25 ≤ i) (d : Bool) : (listedOf p).getD i d = d := by
  simp [Array.getElem?_eq_none (show (listedOf p).size ≤ i by rw [listedOf_size]; exact hi)]
theorem listedOf_upd (p : Nat → Bool) {i : Nat} (hi : i ∈ eL) : (listedOf p).setIfInBounds i true = listedOf (upd p i) := by
  apply Array.ext_getElem?
  intro j
  rw [Array.getElem?_setIfInBounds, listedOf_size]
  by_cases hj : j < 25
  · rw [listedOf_get p hj, listedOf_get _ hj]
    by_cases e : i = j
    · subst e; simp [hj, qL, hi, upd]
    · have : (j == i) = false := by simp; exact fun h => e h.symm
      simp [e, qL, upd, this]
  · rw [Array.getElem?_eq_none (by rw [listedOf_size]; omega), Array.getElem?_eq_none (by rw [listedOf_size]; omega)]
    split
    · split
      · omega
      · rfl
    · rfl
theorem cnt_list {i : Nat} {p : Nat → Bool} (hp : p i = false) : ∀ {l : List Nat}, l.Nodup → i ∈ l → (l.filter fun j => !upd p i j).length + 1 = (l.filter fun j => !p j).length
  | [], _, h => by cases h
  | a :: l, hn, h => by
    rw [List.nodup_cons] at hn
    rcases List.mem_cons.1 h with rfl | h
    · have : (l.filter fun j => !upd p i j) = l.filter fun j => !p j := List.filter_congr fun j hj => by
        have : (j == i) = false := by simp; exact fun e => hn.1 (e ▸ hj)
        simp [upd, this]
      simp only [List.filter_cons, upd, hp, beq_self_eq_true, Bool.true_or, Bool.not_true, Bool.not_false, if_true, List.length_cons]
      rw [← this]; simp [upd]
    · have ha : (a == i) = false := by simp; exact fun e => hn.1 (e ▸ h)
      have ih := cnt_list hp hn.2 h
      simp only [List.filter_cons]
      have : upd p i a = p a := by simp [upd, ha]
      rw [this]
      cases p a <;> simp <;> omega
theorem cnt_upd {p : Nat → Bool} {i : Nat} (hi : i ∈ eL) (hp : p i = false) : cnt (upd p i) + 1 = cnt p := cnt_list hp (by decide) hi
theorem cnt_zero {p : Nat → Bool} (h : cnt p = 0) : ∀ i, i ∈ eL → p i = true := fun i hi => by
  cases hp : p i with
  | true => rfl
  | false => have := cnt_upd hi hp; omega
theorem listedOf_all {p : Nat → Bool} (h : ∀ i, i ∈ eL → p i = true) : listedOf p = listedOf fun _ => true := by
  unfold listedOf
  congr 1
  exact List.map_congr_left fun i _ => by unfold qL; split <;> simp_all
def insL : List Nat := [1, 2, 3, 4, 5, 6, 9, 13, 17, 22]
def keyOf : Nat → Int | 1 => 1 | 2 => 2 | 3 => 3 | 4 => 4 | 5 => 5 | 6 => 11 | 9 => 6 | 13 => 7 | 17 => 9 | _ => 12
def cInt : ByteArray := ⟨#[73, 110, 116]⟩
def cBool : ByteArray := ⟨#[66, 111, 111, 108]⟩
def cText : ByteArray := ⟨#[84, 101, 120, 116]⟩
def cUnit : ByteArray := ⟨#[85, 110, 105, 116]⟩
def cArr : ByteArray := ⟨#[65, 114, 114, 97, 121]⟩
def cWeak : ByteArray := ⟨#[87, 101, 97, 107]⟩
def argOp : Nat → Operand | 1 => .const (.string cInt) | 2 => .const (.string cBool) | 3 => .const (.string cText) | 4 => .const (.string cUnit) | 5 => .const (.string cArr) | 6 => .const (.string cWeak) | 9 => .tmp 9 | 13 => .tmp 12 | 17 => .tmp 15 | _ => .tmp 19
def depL : Nat → List Nat | 21 => [20] | 22 => [20, 21] | _ => []
/-- What a later operation waits for. -/
def edgesIn (o : Oper) (l : List Nat) : Bool := o.after.all fun e => decide (e.on < 23 ∧ e.on ∉ eL) || l.contains e.on
def waits (o : Oper) (l : List Nat) : Bool := l.all fun j => o.after.any fun e => e.on == j && Region.binds .any e
structure LitOps (ops : Array Oper) : Prop where
  size : ops.size = 25
  ins : ∀ i, i ∈ insL → ∃ o, ops[i]? = some o ∧ o.op = .insert 104 (.tmp 7) (.const (.int .i64 (keyOf i))) (argOp i) ∧ o.guard = none ∧ o.dst = none ∧ edgesIn o (depL i) = true
  w22 : ∃ o, ops[22]? = some o ∧ waits o [21] = true
  o20 : ∃ o T, ops[20]? = some o ∧ o.op = .call { callee := .value (.func 81), args := #[.tmp 17], argTypes := T } ∧ o.guard = none ∧ o.dst = some 18 ∧ edgesIn o [] = true
  o21 : ∃ o, ops[21]? = some o ∧ o.op = .binOp .add 9 (.const (.string ⟨#[63]⟩)) (.tmp 18) 9 ∧ o.guard = none ∧ o.dst = some 19 ∧ edgesIn o [20] = true ∧ waits o [20] = true
  w23 : ∃ o, ops[23]? = some o ∧ waits o eL = true
  w24 : ∃ o, ops[24]? = some o ∧ waits o [23] = true
theorem litOps : LitOps opsW where
  size := by kernel_rfl
  ins := fun i hi => by
    simp only [insL, List.mem_cons, List.not_mem_nil, or_false] at hi
    rcases hi with rfl | rfl | rfl | rfl | rfl | rfl | rfl | rfl | rfl | rfl
    · exact ⟨opsW.getD 1 default, by kernel_rfl, by kernel_rfl, by kernel_rfl, by kernel_rfl, by kernel_rfl⟩
    · exact ⟨opsW.getD 2 default, by kernel_rfl, by kernel_rfl, by kernel_rfl, by kernel_rfl, by kernel_rfl⟩
    · exact ⟨opsW.getD 3 default, by kernel_rfl, by kernel_rfl, by kernel_rfl, by kernel_rfl, by kernel_rfl⟩
    · exact ⟨opsW.getD 4 default, by kernel_rfl, by kernel_rfl, by kernel_rfl, by kernel_rfl, by kernel_rfl⟩
    · exact ⟨opsW.getD 5 default, by kernel_rfl, by kernel_rfl, by kernel_rfl, by kernel_rfl, by kernel_rfl⟩
    · exact ⟨opsW.getD 6 default, by kernel_rfl, by kernel_rfl, by kernel_rfl, by kernel_rfl, by kernel_rfl⟩
    · exact ⟨opsW.getD 9 default, by kernel_rfl, by kernel_rfl, by kernel_rfl, by kernel_rfl, by kernel_rfl⟩
    · exact ⟨opsW.getD 13 default, by kernel_rfl, by kernel_rfl, by kernel_rfl, by kernel_rfl, by kernel_rfl⟩
    · exact ⟨opsW.getD 17 default, by kernel_rfl, by kernel_rfl, by kernel_rfl, by kernel_rfl, by kernel_rfl⟩
    · exact ⟨opsW.getD 22 default, by kernel_rfl, by kernel_rfl, by kernel_rfl, by kernel_rfl, by kernel_rfl⟩
  w22 := ⟨opsW.getD 22 default, by kernel_rfl, by kernel_rfl⟩
  o20 := ⟨opsW.getD 20 default, #[3], by kernel_rfl, by kernel_rfl, by kernel_rfl, by kernel_rfl, by kernel_rfl⟩
  o21 := ⟨opsW.getD 21 default, by kernel_rfl, by kernel_rfl, by kernel_rfl, by kernel_rfl, by kernel_rfl, by kernel_rfl⟩
  w23 := ⟨opsW.getD 23 default, by kernel_rfl, by kernel_rfl⟩
  w24 := ⟨opsW.getD 24 default, by kernel_rfl, by kernel_rfl⟩
theorem u104 : Tryd.prog.underlying 104 = some (.map 3 9) := by kernel_rfl
theorem run_ins (r : Nat) (es : Array MapEntry) (clock : Nat) (k : Int) (v : Value) (w : World) (hb : w.heap[r]? = some (.map es clock)) (hf : Instr.findNow (.int .i64) (.int .i64 k) es.toList 0 = some none) :
    (Instr.mapUpdate 104 (.map (some r)) (.int .i64 k) v).run Tryd.prog w = .ok () { w with heap := w.heap.setIfInBounds r (.map (es.push { key := .int .i64 k, val := v, born := clock }) (clock + 1)) } := by
  unfold Instr.mapUpdate
  simp only [Sem.run_bind, run_underlying u104, Result.andThen, MapKept.run_getObj_map hb, MapKept.run_checkKey u3 (k := .int .i64 k) rfl false 9999, MapKept.run_findKey u3 hf, MapKept.run_setObj_map _ hb]
def valOf (v9 v12 v15 v19 : ByteArray) : Nat → ByteArray | 1 => cInt | 2 => cBool | 3 => cText | 4 => cUnit | 5 => cArr | 6 => cWeak | 9 => v9 | 13 => v12 | 17 => v15 | _ => v19
def GoodE (val : Nat → ByteArray) (p : Nat → Bool) (es : Array MapEntry) : Prop :=
  (∀ e, e ∈ es.toList → ∃ i, i ∈ insL ∧ p i = true ∧ e.key = .int .i64 (keyOf i) ∧ e.val = .string (val i)) ∧ ∀ i, i ∈ insL → p i = true → ∃ e, e ∈ es.toList ∧ e.key = .int .i64 (keyOf i)
theorem key_inj : ∀ i, i ∈ insL → ∀ j, j ∈ insL → keyOf i = keyOf j → i = j := by decide
theorem find_none {k : Int} : ∀ {es : List MapEntry} {n : Nat}, (∀ e, e ∈ es → ∃ k', e.key = .int .i64 k' ∧ k' ≠ k) → Instr.findNow (.int .i64) (.int .i64 k) es n = some none
  | [], _, _ => rfl
  | e :: es, n, h => by
    obtain ⟨k', h1, h2⟩ := h e (by simp)
    simp only [Instr.findNow, h1, Instr.sameNow, if_true]
    rw [show (k == k') = false by simp; exact fun e => h2 e.symm]
    exact find_none fun e he => h e (by simp [he])
theorem find_key {k : Int} {P : Value → Prop} : ∀ {es : List MapEntry} {n : Nat}, (∀ e, e ∈ es → ∃ k', e.key = .int .i64 k' ∧ (k' = k → P e.val)) → (∃ e, e ∈ es ∧ e.key = .int .i64 k) → ∃ m v, Instr.findNow (.int .i64) (.int .i64 k) es n = some (some (m, v)) ∧ P v
  | [], _, _, ⟨_, h, _⟩ => by cases h
  | e :: es, n, h, ⟨e2, h2, h3⟩ => by
    obtain ⟨k', h1, hP⟩ := h e (by simp)
    simp only [Instr.findNow, h1, Instr.sameNow, if_true]
    by_cases hk : k = k'
    · subst hk
      simp only [beq_self_eq_true]
      exact ⟨n, e.val, rfl, hP rfl⟩
    · rw [show (k == k') = false by simp [hk]]
      refine find_key (fun e he => h e (by simp [he])) ⟨e2, ?_, h3⟩
      rcases List.mem_cons.1 h2 with rfl | h2
      · rw [h1] at h3; cases h3; exact absurd rfl hk
      · exact h2
theorem GoodE.miss {val : Nat → ByteArray} {p : Nat → Bool} {es : Array MapEntry} (h : GoodE val p es) {i : Nat} (hi : i ∈ insL) (hp : p i = false) : Instr.findNow (.int .i64) (.int .i64 (keyOf i)) es.toList 0 = some none :=
  find_none fun e he => by
    obtain ⟨j, hj, hpj, hk, _⟩ := h.1 e he
    exact ⟨_, hk, fun e2 => by have := key_inj j hj i hi e2; subst this; rw [hp] at hpj; cases hpj⟩
theorem GoodE.hit {val : Nat → ByteArray} {p : Nat → Bool} {es : Array MapEntry} (h : GoodE val p es) {i : Nat} (hi : i ∈ insL) (hp : p i = true) : ∃ m, Instr.findNow (.int .i64) (.int .i64 (keyOf i)) es.toList 0 = some (some (m, .string (val i))) := by
  obtain ⟨m, v, h1, h2⟩ := find_key (P := fun v => v = .string (val i)) (fun e he => by
    obtain ⟨j, hj, hpj, hk, hv⟩ := h.1 e he
    exact ⟨_, hk, fun e2 => by have := key_inj j hj i hi e2; subst this; exact hv⟩) (h.2 i hi hp)
  exact ⟨m, by rw [h1, h2]⟩
theorem GoodE.push {val : Nat → ByteArray} {p : Nat → Bool} {es : Array MapEntry} (h : GoodE val p es) {i : Nat} (hi : i ∈ insL) (c : Nat) : GoodE val (upd p i) (es.push { key := .int .i64 (keyOf i), val := .string (val i), born := c }) := by
  refine ⟨fun e he => ?_, fun j hj hp => ?_⟩
  · simp only [Array.toList_push, List.mem_append, List.mem_singleton] at he
    rcases he with he | rfl
    · obtain ⟨j, hj, hp, h3⟩ := h.1 e he
      exact ⟨j, hj, by simp [upd, hp], h3⟩
    · exact ⟨i, hi, by simp [upd], rfl, rfl⟩
  · simp only [Array.toList_push, List.mem_append, List.mem_singleton]
    by_cases e : j = i
    · subst e; exact ⟨_, Or.inr rfl, rfl⟩
    · obtain ⟨x, h1, h2⟩ := h.2 j hj (by simpa [upd, e] using hp)
      exact ⟨x, Or.inl h1, h2⟩
theorem GoodE.skip {val : Nat → ByteArray} {p : Nat → Bool} {es : Array MapEntry} (h : GoodE val p es) {i : Nat} (hi : i ∉ insL) : GoodE val (upd p i) es :=
  ⟨fun e he => by obtain ⟨j, hj, hp, h3⟩ := h.1 e he; exact ⟨j, hj, by simp [upd, hp], h3⟩, fun j hj hp => h.2 j hj (by
    have : j ≠ i := fun e => hi (e ▸ hj)
    simpa [upd, this] using hp)⟩
/-- What the frames hold while the entries come. -/
structure LitFr (ops : Array Oper) (W0 : World) (r : Nat) (n : Int) (v9 v12 v15 z v19 : ByteArray) (A0 A1 A2 : Act) : Prop where
  hr : W0.heap.size ≤ r
  m0 : ∀ A, A = A0 ∨ A = A1 ∨ A = A2 → A.eval (.tmp 7) = .map (some r) ∧ A.eval (.tmp 9) = .string v9 ∧ A.eval (.tmp 12) = .string v12 ∧ A.eval (.tmp 15) = .string v15
  m2 : A2.eval (.tmp 19) = .string v19
  n0 : A0.eval (.tmp 17) = .int .i64 n
  call : ∀ w, Below W0.heap.size W0 w → Calls Tryd.prog 81 #[.int .i64 n] w fun e w' => e = .returned (.string z) ∧ w' = w
  p1 : A0.put (some 18) (.string z) = A1
  cat : ∀ (o : Oper) (w : World), o.op = .binOp .add 9 (.const (.string ⟨#[63]⟩)) (.tmp 18) 9 → (execOp A1.eval o).run Tryd.prog w = .ok (.value (.string v19)) w
  p2 : A1.put (some 19) (.string v19) = A2
def frOf (A0 A1 A2 : Act) (p : Nat → Bool) : Act := if p 21 then A2 else if p 20 then A1 else A0
theorem eL_lt : ∀ i, i ∈ eL → i < 25 := by decide
theorem insL_eL : ∀ i, i ∈ insL → i ∈ eL := by decide
theorem dep_nil : ∀ i, i ∈ insL → i ≠ 22 → depL i = [] := by decide
theorem eL_cases : ∀ i, i ∈ eL → i ∈ insL ∨ i = 20 ∨ i = 21 := by decide
theorem ins_ne : ∀ i, i ∈ insL → (20 == i) = false ∧ (21 == i) = false := by decide
theorem argOp_eval {W0 : World} {r : Nat} {n : Int} {v9 v12 v15 z v19 : ByteArray} {A0 A1 A2 : Act} {ops : Array Oper} (F : LitFr ops W0 r n v9 v12 v15 z v19 A0 A1 A2) {A : Act} (hA : A = A0 ∨ A = A1 ∨ A = A2) {i : Nat} (hi : i ∈ insL) (h22 : i = 22 → A = A2) : A.eval (argOp i) = .string (valOf v9 v12 v15 v19 i) := by
  obtain ⟨_, h9, h12, h15⟩ := F.m0 A hA
  simp only [insL, List.mem_cons, List.not_mem_nil, or_false] at hi
  rcases hi with rfl | rfl | rfl | rfl | rfl | rfl | rfl | rfl | rfl | rfl
  · rfl
  · rfl
  · rfl
  · rfl
  · rfl
  · rfl
  · exact h9
  · exact h12
  · exact h15
  · rw [h22 rfl]; exact F.m2
theorem wpOp_at {P : Program} {ops : Array Oper} {Q : Exit → Act → World → Prop} {i : Nat} {K : Act → World → Prop} {a : Act} {w : World} {o : Oper} (ho : ops[i]? = some o) (hg : o.guard = none) (h : o.wp P a w K Q) : wpOp P ops Q i K a w := by
  unfold wpOp
  simp only [ho]
  rw [if_pos (by simp [Region.wanted, hg])]
  exact .inl h
theorem edges_ok {o : Oper} {l : List Nat} (h : edgesIn o l = true) {p : Nat → Bool} (hl : ∀ j, j ∈ l → j < 23 ∧ qL p j = true) : ∀ e ∈ o.after, Region.binds .any e = true → (listedOf p).getD e.on false = true := fun e he _ => by
  unfold edgesIn at h
  rw [Array.all_eq_true'] at h
  have h1 := h e he
  simp only [Bool.or_eq_true, decide_eq_true_eq, List.contains_iff_mem] at h1
  rcases h1 with ⟨h1, h2⟩ | h1
  · rw [listedOf_getD p (by omega)]
    unfold qL
    rw [if_neg h2]; simpa using h1
  · obtain ⟨h2, h3⟩ := hl _ h1
    rw [listedOf_getD p (by omega)]; exact h3
theorem waits_ok {o : Oper} {l : List Nat} (h : waits o l = true) {p : Nat → Bool} (ha : ∀ e ∈ o.after, Region.binds .any e = true → (listedOf p).getD e.on false = true) : ∀ j, j ∈ l → (listedOf p).getD j false = true := fun j hj => by
  unfold waits at h
  rw [List.all_eq_true] at h
  have h1 := h j hj
  rw [Array.any_eq_true'] at h1
  obtain ⟨e, he, h2⟩ := h1
  simp only [Bool.and_eq_true, beq_iff_eq] at h2
  rw [← h2.1]; exact ha e he h2.2
set_option maxRecDepth 100000 in
theorem lit_any {ops : Array Oper} (hO : LitOps ops) {W0 : World} {r : Nat} {n : Int} {v9 v12 v15 z v19 : ByteArray} {A0 A1 A2 : Act} (F : LitFr ops W0 r n v9 v12 v15 z v19 A0 A1 A2) {Q : Exit → Act → World → Prop} {f : Nat}
    (hK : ∀ w es c, w.heap[r]? = some (.map es c) → GoodE (valOf v9 v12 v15 v19) (fun _ => true) es → Below W0.heap.size W0 w → wpAnyH Tryd.prog .any ops Q (Below W0.heap.size W0) f (listedOf fun _ => true) A2 w) :
    ∀ (k : Nat) (p : Nat → Bool), (p 21 = true → p 20 = true) → (p 22 = true → p 21 = true) → cnt p = k → ∀ w es c, w.heap[r]? = some (.map es c) → GoodE (valOf v9 v12 v15 v19) p es → Below W0.heap.size W0 w → wpAnyH Tryd.prog .any ops Q (Below W0.heap.size W0) (k + f) (listedOf p) (frOf A0 A1 A2 p) w := by
  intro k
  induction k with
  | zero =>
    intro p h21 h22 hc w es c hr hG hb
    have hall := cnt_zero hc
    rw [listedOf_all hall, Nat.zero_add]
    have : frOf A0 A1 A2 p = A2 := by unfold frOf; rw [if_pos (hall 21 (by decide))]
    rw [this]
    refine hK w es c hr ⟨fun e he => ?_, fun i hi _ => hG.2 i hi (hall i (insL_eL i (by assumption)))⟩ hb
    obtain ⟨j, hj, hp, h3⟩ := hG.1 e he
    exact ⟨j, hj, rfl, h3⟩
  | succ k ih =>
    intro p h21 h22 hc w es c hr hG hb
    have hA : frOf A0 A1 A2 p = A0 ∨ frOf A0 A1 A2 p = A1 ∨ frOf A0 A1 A2 p = A2 := by
      unfold frOf; split
      · exact Or.inr (Or.inr rfl)
      · split
        · exact Or.inr (Or.inl rfl)
        · exact Or.inl rfl
    rw [show k + 1 + f = (k + f) + 1 by omega]
    refine ⟨fun h0 => ?_, fun i hi => ?_⟩
    · -- something is ready
      exfalso
      have hno : ∀ i, i ∉ Region.ready .any ops (listedOf p) := fun i hi => by rw [h0] at hi; cases hi
      have key : ∀ i o l, i ∈ eL → p i = false → ops[i]? = some o → edgesIn o l = true → (∀ j, j ∈ l → j < 23 ∧ qL p j = true) → False := fun i o l hi hp ho he hl =>
        hno i (mem_ready.2 ⟨by rw [listedOf_getD p (eL_lt i hi)]; simp [qL, hi, hp], o, ho, edges_ok he hl⟩)
      have h1 : ∀ i, i ∈ insL → i ≠ 22 → p i = true := fun i hi hne => by
        cases hp : p i with
        | true => rfl
        | false =>
          obtain ⟨o, ho, _, _, _, he⟩ := hO.ins i hi
          exact (key i o (depL i) (insL_eL i hi) hp ho he (fun j hj => by rw [dep_nil i hi hne] at hj; cases hj)).elim
      have h20 : p 20 = true := by
        cases hp : p 20 with
        | true => rfl
        | false =>
          obtain ⟨o, T, ho, _, _, _, he⟩ := hO.o20
          exact (key 20 o [] (by decide) hp ho he (fun j hj => by cases hj)).elim
      have q20 : qL p 20 = true := by simp [qL, eL, h20]
      have h21' : p 21 = true := by
        cases hp : p 21 with
        | true => rfl
        | false =>
          obtain ⟨o, ho, _, _, _, he, _⟩ := hO.o21
          exact (key 21 o [20] (by decide) hp ho he (fun j hj => by simp at hj; subst hj; exact ⟨by omega, q20⟩)).elim
      have q21 : qL p 21 = true := by simp [qL, eL, h21']
      have h22' : p 22 = true := by
        cases hp : p 22 with
        | true => rfl
        | false =>
          obtain ⟨o, ho, _, _, _, he⟩ := hO.ins 22 (by decide)
          exact (key 22 o [20, 21] (by decide) hp ho he (fun j hj => by
            simp at hj
            rcases hj with rfl | rfl
            · exact ⟨by omega, q20⟩
            · exact ⟨by omega, q21⟩)).elim
      have hall : ∀ i, i ∈ eL → p i = true := fun i hi => by
        rcases eL_cases i hi with h | rfl | rfl
        · by_cases e : i = 22
          · subst e; exact h22'
          · exact h1 i h e
        · exact h20
        · exact h21'
      have : cnt p = 0 := by
        unfold cnt
        rw [List.length_eq_zero_iff, List.filter_eq_nil_iff]
        intro i hi; simp [hall i hi]
      omega
    · obtain ⟨hun, o, ho, hed⟩ := mem_ready.1 hi
      have hi25 : i < 25 := by
        rcases Nat.lt_or_ge i 25 with h | h
        · exact h
        · rw [listedOf_past p h] at hun; cases hun
      rw [listedOf_getD p hi25] at hun
      by_cases hE : i ∈ eL
      · have hp : p i = false := by simpa [qL, hE] using hun
        have hcu := cnt_upd hE hp
        rw [listedOf_upd p hE]
        rcases eL_cases i hE with hins | rfl | rfl
        · obtain ⟨o', ho', hop, hg, hd, -⟩ := hO.ins i hins
          rw [ho'] at ho; cases ho
          have h22i : i = 22 → p 21 = true := fun e => by
            subst e
            obtain ⟨o2, ho2, hw⟩ := hO.w22
            rw [ho2] at ho'; cases ho'
            have := waits_ok hw hed 21 (by simp)
            rw [listedOf_getD p (by omega)] at this
            simpa [qL, eL] using this
          have hfr : frOf A0 A1 A2 (upd p i) = frOf A0 A1 A2 p := by
            obtain ⟨e2, e1⟩ := ins_ne i hins
            simp [frOf, upd, e1, e2]
          have hx := argOp_eval F hA hins (fun e => by unfold frOf; rw [if_pos (h22i e)])
          refine wpOp_at ho' hg ?_
          unfold Oper.wp execOp
          have hc2 : (frOf A0 A1 A2 p).eval (.const (.int .i64 (keyOf i))) = .int .i64 (keyOf i) := rfl
          simp only [hop, (F.m0 _ hA).1, hx, hc2, run_ins r es c (keyOf i) _ w hr (hG.miss hins hp), Sem.run_bind, Sem.run_pure, Result.andThen_ok]
          obtain ⟨g1, g2⟩ := MapKept.heap_set (o' := .map (es.push { key := .int .i64 (keyOf i), val := .string (valOf v9 v12 v15 v19 i), born := c }) (c + 1)) hr
          have hb2 : Below W0.heap.size W0 { w with heap := w.heap.setIfInBounds r (.map (es.push { key := .int .i64 (keyOf i), val := .string (valOf v9 v12 v15 v19 i), born := c }) (c + 1)) } := ⟨hb.os, hb.tape, hb.output, by simpa using hb.size, fun j hj => by rw [g2 j (by have := F.hr; omega)]; exact hb.block j hj⟩
          have := ih (upd p i) (fun h => by
              have e1 := (ins_ne i hins).2
              simp [upd, e1] at h ⊢; exact Or.inr (h21 h)) (fun h => by
              simp only [upd, Bool.or_eq_true, beq_iff_eq] at h ⊢
              rcases h with h | h
              · exact Or.inr (h22i h.symm)
              · exact Or.inr (h22 h)) (by omega) _ _ _ g1 (hG.push hins c) hb2
          rw [hfr] at this
          show Below W0.heap.size W0 _ ∧ wpAnyH _ _ _ _ _ _ _ ((frOf A0 A1 A2 p).put o.dst undef) _
          rw [hd]
          exact ⟨hb2, this⟩
        · obtain ⟨o', T, ho', hop, hg, hd, -⟩ := hO.o20
          rw [ho'] at ho; cases ho
          have hp21 : p 21 = false := by
            cases h : p 21 with
            | false => rfl
            | true => rw [h21 h] at hp; cases hp
          have hfr0 : frOf A0 A1 A2 p = A0 := by simp [frOf, hp, hp21]
          have hfr1 : frOf A0 A1 A2 (upd p 20) = A1 := by simp [frOf, upd, hp21]
          refine wpOp_at ho' hg ?_
          rw [hfr0]
          unfold Oper.wp
          have hv : (execOp A0.eval o).run Tryd.prog w = .ok (.enter 81 #[.int .i64 n]) w := by
            unfold execOp
            have e1 : A0.eval (.func 81) = .func (.func 81) #[] #[] := rfl
            simp only [hop, resolve, Deferred.ofValue, invoke, e1, F.n0, Sem.run_bind, Sem.run_pure, Result.andThen_ok, List.map_toArray, List.map_cons, List.map_nil]
            exact (enters_of Tryd.func81 (by kernel_rfl) rfl : Enters Tryd.prog 81) _ w
          rw [hv]
          refine (F.call w hb).mono ?_
          rintro e w' ⟨rfl, rfl⟩
          show Below W0.heap.size W0 _ ∧ wpAnyH _ _ _ _ _ _ _ (A0.put o.dst (.string z)) _
          rw [hd, F.p1, ← hfr1]
          exact ⟨hb, ih (upd p 20) (fun _ => by simp [upd]) (fun h => by simp [upd] at h ⊢; exact h22 h) (by omega) _ _ _ hr (hG.skip (by decide)) hb⟩
        · obtain ⟨o', ho', hop, hg, hd, -, hw⟩ := hO.o21
          rw [ho'] at ho; cases ho
          have hp20 : p 20 = true := by
            have := waits_ok hw hed 20 (by simp)
            rw [listedOf_getD p (by omega)] at this
            simpa [qL, eL] using this
          have hfr1 : frOf A0 A1 A2 p = A1 := by simp [frOf, hp, hp20]
          have hfr2 : frOf A0 A1 A2 (upd p 21) = A2 := by simp [frOf, upd]
          refine wpOp_at ho' hg ?_
          rw [hfr1]
          unfold Oper.wp
          rw [F.cat o w hop]
          show Below W0.heap.size W0 _ ∧ wpAnyH _ _ _ _ _ _ _ (A1.put o.dst (.string v19)) _
          rw [hd, F.p2, ← hfr2]
          exact ⟨hb, ih (upd p 21) (fun _ => by simp [upd, hp20]) (fun h => by simp [upd]) (by omega) _ _ _ hr (hG.skip (by decide)) hb⟩
      · -- 23 and 24 wait
        exfalso
        have hge : ¬ i < 23 := by simpa [qL, hE] using hun
        have : i = 23 ∨ i = 24 := by omega
        rcases this with rfl | rfl
        · obtain ⟨o', ho', hw⟩ := hO.w23
          rw [ho'] at ho; cases ho
          have hall := waits_ok hw hed
          have : cnt p = 0 := by
            unfold cnt
            rw [List.length_eq_zero_iff, List.filter_eq_nil_iff]
            intro i hi
            have := hall i hi
            rw [listedOf_getD p (eL_lt i hi)] at this
            simp [qL, hi] at this
            simp [this]
          omega
        · obtain ⟨o', ho', hw⟩ := hO.w24
          rw [ho'] at ho; cases ho
          have := waits_ok hw hed 23 (by simp)
          rw [listedOf_getD p (by omega)] at this
          simp [qL, eL] at this
theorem u72 : Tryd.prog.underlying 72 = some (.pointer 74) := by kernel_rfl
theorem u138 : Tryd.prog.underlying 138 = some .unsafePointer := by kernel_rfl
theorem u57 : Tryd.prog.underlying 57 = some (.slice 5) := by kernel_rfl
theorem u9s : Tryd.prog.underlying 9 = some .string := by kernel_rfl
theorem infoBuilder : (Tryd.prog.info? 74).map (·.size) = some 2 := by kernel_rfl
theorem infoByte : (Tryd.prog.info? 5).map (fun i => (i.zero, i.size, i.bytes)) = some (some (.int .u8 0), 1, 1) := by kernel_rfl
theorem liesBuilder : liesAt Tryd.prog Tryd.prog.depth 74 (2 / Tryd.prog.cellsOf 74) 0 74 1 = true := by kernel_rfl
set_option maxHeartbeats 1000000 in
set_option maxRecDepth 100000 in
theorem copyCheck_used (b : Nat) (w : World) (h0 : w.cell? ⟨b, 0, none⟩ = some (.pointer (some ⟨b, 0, none⟩))) :
    Calls Tryd.prog 108 #[.pointer (some ⟨b, 0, none⟩)] w fun e w' => e = .returned (.tuple #[]) ∧ w' = w := by
  obtain ⟨j, hj, hjs⟩ := info_of infoBuilder
  go_enter Tryd.func108, Tryd.ntmps108
  go_wp2
  rw [Lib.run_neq_ptr_same w _ u72 hj]
  go_wp2
  go_end0
  exact ⟨rfl, rfl⟩
set_option maxHeartbeats 1000000 in
set_option maxRecDepth 100000 in
theorem copyCheck_fresh (b : Nat) (w : World) (h0 : w.cell? ⟨b, 0, none⟩ = some (.pointer none)) (hsh : w.shape? b = some (74, 2)) (hfz : w.frozen? ⟨b, 0, none⟩ = false) :
    Calls Tryd.prog 108 #[.pointer (some ⟨b, 0, none⟩)] w fun e w' => e = .returned (.tuple #[]) ∧ w' = w.setCell ⟨b, 0, none⟩ (.pointer (some ⟨b, 0, none⟩)) := by
  obtain ⟨j, hj, hjs⟩ := info_of infoBuilder
  go_enter Tryd.func108, Tryd.ntmps108
  go_wp2
  rw [Lib.run_to_unsafe w ⟨b, 0, none⟩ u72 u138 hj (by rw [hjs]; decide) hsh (Nat.zero_lt_succ 1)]
  simp only [Result.andThen]
  rw [Oper.upon_value]
  go_wp2
  rw [run_callFunc_extern Tryd.func127 (by kernel_rfl) (by kernel_rfl) (by kernel_rfl) (e := Extern.AbiNoEscape.same) (by kernel_rfl)]
  rw [Lib.run_noEscape]
  simp only [Result.andThen]
  rw [Oper.upon_value]
  go_wp2
  rw [Lib.run_from_unsafe w ⟨b, 0, none⟩ u138 u72 hj hsh liesBuilder]
  simp only [Result.andThen]
  rw [Oper.upon_value]
  go_wp2
  go_end0
  exact ⟨rfl, rfl⟩
theorem copyCheck_any (B b : Nat) (bs : List Value) (w : World) (h : Lib.IsBuilderF 74 5 B b bs w) :
    Calls Tryd.prog 108 #[.pointer (some ⟨b, 0, none⟩)] w fun e w' => e = .returned (.tuple #[]) ∧ (Lib.BuilderAtF 74 5 B b (.pointer (some ⟨b, 0, none⟩)) bs w' ∧ Below B w w' ∧ Lib.OthersKept 5 (some b) w w') := by
  rcases h with h | h
  · refine (copyCheck_fresh b w h.cell0 h.shape h.frozen0).mono ?_
    rintro e w' ⟨rfl, rfl⟩
    exact ⟨rfl, h.used _, (Below.refl B w).setCell (p := ⟨b, 0, none⟩) h.1 _, (Lib.OthersKept.refl _ _ w).setCell ⟨b, 0, none⟩ rfl _⟩
  · refine (copyCheck_used b w h.cell0).mono ?_
    rintro e w' ⟨rfl, rfl⟩
    exact ⟨rfl, h, Below.refl B _, Lib.OthersKept.refl _ _ _⟩
set_option maxHeartbeats 2000000 in
set_option maxRecDepth 100000 in
theorem WriteString_any (B b : Nat) (bs : List Value) (s : ByteArray) (w : World) (h : Lib.IsBuilderF 74 5 B b bs w) (hlen : bs.length + s.size ≤ 140737488355328) (hBw : B ≤ w.heap.size) :
    Calls Tryd.prog 82 #[.pointer (some ⟨b, 0, none⟩), .string s] w fun e w' => e = .returned (.tuple #[.int .i64 s.size, .nilIface]) ∧ (Lib.BuilderAtF 74 5 B b (.pointer (some ⟨b, 0, none⟩)) (bs ++ Lib.strCells s) w' ∧ Below B w w' ∧ Lib.OthersKept 5 (some b) w w') := by
  obtain ⟨i0, hi, hz0, hz1, hz2⟩ := info_parts infoByte
  go_enter Tryd.func82, Tryd.ntmps82
  go_wp2_with (go_at_call 108; refine (copyCheck_any B b bs _ h).mono ?_)
  rintro e w1 ⟨rfl, h1, hb1, hk1⟩
  obtain ⟨hB, v, hbk, hown, hne⟩ := h1
  have c0 : w1.cell? ⟨b, 0, none⟩ = some (.pointer (some ⟨b, 0, none⟩)) := by rw [Lib.cell_of_heap hbk]; rfl
  have c1 : w1.cell? ⟨b, 1, none⟩ = some v := by rw [Lib.cell_of_heap hbk]; rfl
  go_wp2_with (at_builtin; refine Lib.wpList_append_own_stringF _ rfl _ _ 57 9 rfl B 5 i0 u57 u9s hi hz0 hz1 hz2 _ _ _ rfl hown s rfl ?c3 ?c4 ?c5 ?_)
  case c3 => unfold maxLen; omega
  case c4 => omega
  case c5 => have := hb1.size; omega
  intro v' w2 hown' hgrow _
  have hlt : b < w1.heap.size := heap_lt hbk
  have hb2 : w2.heap[b]? = some (.cells #[.pointer (some ⟨b, 0, none⟩), v] 74 (0, 0)) := by
    rw [hgrow.block b hlt (fun e => hne e.symm)]
    exact hbk
  have d0 : w2.cell? ⟨b, 0, none⟩ = some (.pointer (some ⟨b, 0, none⟩)) := by rw [Lib.cell_of_heap hb2]; rfl
  have d1 : w2.cell? ⟨b, 1, none⟩ = some v := by rw [Lib.cell_of_heap hb2]; rfl
  have f1 : w2.frozen? ⟨b, 1, none⟩ = false := Lib.frozen_of_heap hb2 1
  obtain ⟨ao, n', cap, rfl⟩ : ∃ ao n' cap, v' = .slice ao n' cap := by
    rcases hown'.2 with ⟨hv, _⟩ | ⟨g, cap, cur, fz, hv, _⟩
    · exact ⟨_, _, _, hv⟩
    · exact ⟨_, _, _, hv⟩
  go_wp2
  go_ret2
  refine ⟨rfl, ?_, ?_, (hk1.grown hgrow (Lib.ownsRowF_kind hown)).setCell ⟨b, 1, none⟩ rfl _⟩
  · exact Lib.BuilderAtF.put (T := 74) (e := 5) hB hb2 (bs' := bs ++ Lib.strCells s) (by simpa [Lib.strCells_length] using hown') (by decide)
  · exact (hb1.grown hgrow (by have := hb1.size; omega) (fun k hk => (hown.lt k hk).1)).setCell (p := ⟨b, 1, none⟩) hB _
end Go.Proofs.YtokmaehefenpmaaDoor
namespace Go.Proofs
open Go.Shelf
def Tryd.lays169_ren : Go.Shelf.Ren := ⟨fun | 169 => 61 | n => n, fun | 70 => 72 | 9 => 9 | 0 => 0 | 72 => 74 | 37 => 57 | 127 => 110 | 3 => 3 | 5 => 5 | n => n, fun | n => n⟩
theorem Tryd.lays169 : Go.Proofs.Lays.n169 Tryd.prog Tryd.lays169_ren := {
  mixed := by kernel_rfl
  f169 := Tryd.func61.trans (congrArg some (by kernel_rfl))
  t0 := Tryd.underlying0
  a0 := Tryd.isAgg0
  z0 := Tryd.sizeOf0
  v0 := Tryd.zeroValue0
  t3 := Tryd.underlying3
  a3 := Tryd.isAgg3
  z3 := Tryd.sizeOf3
  v3 := Tryd.zeroValue3
  t9 := Tryd.underlying9
  a9 := Tryd.isAgg9
  z9 := Tryd.sizeOf9
  v9 := Tryd.zeroValue9
  t37 := Tryd.underlying57
  a37 := Tryd.isAgg57
  z37 := Tryd.sizeOf57
  v37 := Tryd.zeroValue57
  t70 := Tryd.underlying72
  a70 := Tryd.isAgg72
  z70 := Tryd.sizeOf72
  v70 := Tryd.zeroValue72
  t72 := Tryd.underlying74
  a72 := Tryd.isAgg74
  z72 := Tryd.sizeOf74
  v72 := Tryd.zeroValue74
  t127 := Tryd.underlying110
  a127 := Tryd.isAgg110
  z127 := Tryd.sizeOf110
  v127 := Tryd.zeroValue110 }
theorem Tryd.Builder_Extra_169 : Builder.Extra Tryd.prog Tryd.lays169_ren := {
  sizeBuilder := by kernel_rfl
  liesBuilder := by kernel_rfl
  t5 := Tryd.underlying5
  a5 := Tryd.isAgg5
  z5 := Tryd.sizeOf5
  v5 := Tryd.zeroValue5
  infoByte := by kernel_rfl
  cellsByte := by kernel_rfl
  sizeByte := by kernel_rfl
  neB5 := by decide }
open Go.RowKit in
theorem Tryd.Builder_String_any_k (B b : Nat) (l : List UInt8) (w : World) (h : Lib.IsBuilderF 74 5 B b (Lib.byteCells l) w) (hBw : B ≤ w.heap.size) :
    Calls Tryd.prog 61 #[.pointer (some ⟨b, 0, none⟩)] w fun e w' => e = .returned (.string ⟨l.toArray⟩) ∧ (Lib.IsBuilderF 74 5 B b (Lib.byteCells l) w' ∧ Below B w w' ∧ Lib.OthersKept 5 (some b) w w') := Any.Builder_String_any_k Tryd.lays169 Tryd.Builder_Extra_169 B b l w h hBw
def Tryd.lays171_ren : Go.Shelf.Ren := ⟨fun | 171 => 81 | 243 => 107 | 246 => 126 | 283 => 149 | 284 => 150 | 285 => 151 | 286 => 152 | 129 => 145 | 317 => 172 | 318 => 173 | 319 => 174 | 320 => 175 | 337 => 182 | 338 => 183 | n => n, fun | 3 => 3 | 9 => 9 | 2 => 2 | 4 => 4 | 171 => 160 | 0 => 0 | 53 => 157 | 37 => 57 | 5 => 5 | 173 => 162 | 212 => 183 | 51 => 155 | 20 => 20 | 213 => 184 | 46 => 131 | 232 => 195 | 233 => 196 | n => n, fun | 17 => 3 | 18 => 4 | 19 => 5 | n => n⟩
theorem Tryd.lays171 : Go.Proofs.Lays.n171 Tryd.prog Tryd.lays171_ren := {
  mixed := by kernel_rfl
  f129 := Tryd.func145.trans (congrArg some (by kernel_rfl))
  f171 := Tryd.func81.trans (congrArg some (by kernel_rfl))
  f243 := Tryd.func107.trans (congrArg some (by kernel_rfl))
  f246 := Tryd.func126.trans (congrArg some (by kernel_rfl))
  f283 := Tryd.func149.trans (congrArg some (by kernel_rfl))
  f284 := Tryd.func150.trans (congrArg some (by kernel_rfl))
  f285 := Tryd.func151.trans (congrArg some (by kernel_rfl))
  f286 := Tryd.func152.trans (congrArg some (by kernel_rfl))
  f317 := Tryd.func172.trans (congrArg some (by kernel_rfl))
  f318 := Tryd.func173.trans (congrArg some (by kernel_rfl))
  f319 := Tryd.func174.trans (congrArg some (by kernel_rfl))
  f320 := Tryd.func175.trans (congrArg some (by kernel_rfl))
  f337 := Tryd.func182.trans (congrArg some (by kernel_rfl))
  f338 := Tryd.func183.trans (congrArg some (by kernel_rfl))
  t0 := Tryd.underlying0
  a0 := Tryd.isAgg0
  z0 := Tryd.sizeOf0
  v0 := Tryd.zeroValue0
  t2 := Tryd.underlying2
  a2 := Tryd.isAgg2
  z2 := Tryd.sizeOf2
  v2 := Tryd.zeroValue2
  t3 := Tryd.underlying3
  a3 := Tryd.isAgg3
  z3 := Tryd.sizeOf3
  v3 := Tryd.zeroValue3
  t4 := Tryd.underlying4
  a4 := Tryd.isAgg4
  z4 := Tryd.sizeOf4
  v4 := Tryd.zeroValue4
  t5 := Tryd.underlying5
  a5 := Tryd.isAgg5
  z5 := Tryd.sizeOf5
  v5 := Tryd.zeroValue5
  t9 := Tryd.underlying9
  a9 := Tryd.isAgg9
  z9 := Tryd.sizeOf9
  v9 := Tryd.zeroValue9
  t20 := Tryd.underlying20
  a20 := Tryd.isAgg20
  z20 := Tryd.sizeOf20
  v20 := Tryd.zeroValue20
  t37 := Tryd.underlying57
  a37 := Tryd.isAgg57
  z37 := Tryd.sizeOf57
  v37 := Tryd.zeroValue57
  t46 := Tryd.underlying131
  a46 := Tryd.isAgg131
  z46 := Tryd.sizeOf131
  v46 := Tryd.zeroValue131
  t51 := Tryd.underlying155
  a51 := Tryd.isAgg155
  z51 := Tryd.sizeOf155
  v51 := Tryd.zeroValue155
  t53 := Tryd.underlying157
  a53 := Tryd.isAgg157
  z53 := Tryd.sizeOf157
  v53 := Tryd.zeroValue157
  t171 := Tryd.underlying160
  a171 := Tryd.isAgg160
  z171 := Tryd.sizeOf160
  v171 := Tryd.zeroValue160
  t173 := Tryd.underlying162
  a173 := Tryd.isAgg162
  z173 := Tryd.sizeOf162
  v173 := Tryd.zeroValue162
  t212 := Tryd.underlying183
  a212 := Tryd.isAgg183
  z212 := Tryd.sizeOf183
  v212 := Tryd.zeroValue183
  t213 := Tryd.underlying184
  a213 := Tryd.isAgg184
  z213 := Tryd.sizeOf184
  t232 := Tryd.underlying195
  a232 := Tryd.isAgg195
  z232 := Tryd.sizeOf195
  v232 := Tryd.zeroValue195
  t233 := Tryd.underlying196
  a233 := Tryd.isAgg196
  z233 := Tryd.sizeOf196
  v233 := Tryd.zeroValue196
  g17 := by kernel_rfl
  g18 := by kernel_rfl
  g19 := by kernel_rfl }
open Go.RowKit Go.Sort Go.Lib in
theorem Tryd.strconv_Itoa_small (i : Nat) (hi : i < 100) (w : World) :
    Calls Tryd.prog 81 #[.int .i64 i] w fun e w' => e = .returned (.string ⟨(Lib.decDigits i).toArray⟩) ∧ w' = w := Any.strconv_Itoa_small Tryd.lays171 i hi w
end Go.Proofs
namespace Go.Proofs.YtokmaehefenpmaaDoor
open Go.RowKit Go.Proofs.YtokmaehefenpmaaDoor.Nm
set_option linter.unusedSimpArgs false
theorem ownsRowF_below {w w' : World} {B : Nat} {e : TypeId} {size : Nat} {v : Value} {n : Nat} {xs : List Value} (h : w.ownsRowF B e size v n xs) (hb : Below w.heap.size w w') : w'.ownsRowF B e size v n xs :=
  h.kept (row := none) ⟨hb.os, hb.tape, hb.output, hb.size, fun k hk _ => hb.block k hk⟩ (by cases v.ownBlock <;> simp)
theorem BuilderAtF_below {w w' : World} {T e : TypeId} {B b : Nat} {p : Value} {bs : List Value} (h : Lib.BuilderAtF T e B b p bs w) (hb : Below w.heap.size w w') : Lib.BuilderAtF T e B b p bs w' := by
  obtain ⟨h1, v, h2, h3, h4⟩ := h
  exact ⟨h1, v, below_look hb h2, ownsRowF_below h3 hb, h4⟩
/-- A builder with the text so far. -/
def Bd (w : World) (B b : Nat) (l : List UInt8) : Prop := Lib.IsBuilderF 74 5 B b (Lib.byteCells l) w
theorem Bd.old {w w' : World} {B b : Nat} {l : List UInt8} (h : Bd w B b l) (hb : Below w.heap.size w w') : Bd w' B b l := h.imp (BuilderAtF_below · hb) (BuilderAtF_below · hb)
theorem Bd.lt {w : World} {B b : Nat} {l : List UInt8} (h : Bd w B b l) : B ≤ b ∧ b < w.heap.size := h.elim (fun h => ⟨h.1, h.lt⟩) (fun h => ⟨h.1, h.lt⟩)
/-- What a writing leaves alone. -/
structure Kb (B b : Nat) (w w' : World) : Prop where
  below : Below B w w'
  oth : Lib.OthersKept 5 (some b) w w'
theorem Kb.refl (B b : Nat) (w : World) : Kb B b w w := ⟨Below.refl _ _, Lib.OthersKept.refl _ _ _⟩
theorem Kb.trans {B b : Nat} {w w1 w2 : World} (h : Kb B b w w1) (k : Kb B b w1 w2) : Kb B b w w2 := ⟨h.below.trans k.below, h.oth.trans k.oth⟩
theorem Kb.of {B b : Nat} {w w' : World} (h : Below w.heap.size w w') (hB : B ≤ w.heap.size) : Kb B b w w' := ⟨h.mono hB, fun _ _ hk _ _ => below_look h hk⟩
theorem Kb.look {B b : Nat} {w w' : World} (h : Kb B b w w') {g : Nat} {cs : Array Value} {t : TypeId} {fr : Nat × Nat} (hg : w.heap[g]? = some (.cells cs t fr)) (hb : g ≠ b) (ht : t ≠ 5) : w'.heap[g]? = some (.cells cs t fr) :=
  h.oth g _ hg (by simpa using hb) (fun c fz e => by cases e; exact ht rfl)
theorem Kb.size {B b : Nat} {w w' : World} (h : Kb B b w w') : w.heap.size ≤ w'.heap.size := h.below.size
def WPost (B b : Nat) (out : List UInt8) (w : World) (e : Ending) (w' : World) : Prop := e = .returned (.tuple #[]) ∧ Bd w' B b out ∧ Kb B b w w'
theorem WriteS (B b : Nat) (l : List UInt8) (s : ByteArray) (w : World) (h : Bd w B b l) (hlen : l.length + s.size ≤ 1000000000) (hB : B ≤ w.heap.size) :
    Calls Tryd.prog 82 #[.pointer (some ⟨b, 0, none⟩), .string s] w fun e w' => e = .returned (.tuple #[.int .i64 s.size, .nilIface]) ∧ Bd w' B b (l ++ s.data.toList) ∧ Kb B b w w' := by
  refine (WriteString_any B b _ s w h (by rw [Lib.byteCells_length]; omega) hB).mono ?_
  rintro e w' ⟨rfl, h1, h2, h3⟩
  refine ⟨rfl, Or.inr ?_, h2, h3⟩
  have : Lib.byteCells (l ++ s.data.toList) = Lib.byteCells l ++ Lib.strCells s := by simp [Lib.byteCells, Lib.strCells]
  rw [this]; exact h1
theorem TyAt.kb {w w' : World} {B b : Nat} {D : Nat → Prop} {t : Ty} {row : Array Value} (h : TyAt w D t row) (hD : ∀ x, D x → x < B) (hk : Kb B b w w') : TyAt w' D t row := h.mono (fun _ h => h) fun x hx => hk.below.block x (hD x hx)
theorem TysAt.kb {w w' : World} {B b : Nat} {D : Nat → Prop} {ts : List Ty} {A : Option Addr} {l c : Nat} (h : TysAt w D ts A l c) (hD : ∀ x, D x → x < B) (hk : Kb B b w w') : TysAt w' D ts A l c := h.mono (fun _ h => h) fun x hx => hk.below.block x (hD x hx)
def cSep : ByteArray := ⟨#[44, 32]⟩
abbrev tv (b : Nat) : Value := .agg #[.pointer (some ⟨b, 0, none⟩)]
def TypC (txt : Ty → List UInt8) (t : Ty) : Prop := ∀ (w : World) (B b : Nat) (l : List UInt8) (D : Nat → Prop) (row : Array Value), Bd w B b l → B ≤ w.heap.size → l.length + (txt t).length ≤ 1000000000 → TyAt w D t row → (∀ x, D x → x < B) →
  Calls Tryd.prog 60 #[tv b, .agg row] w (WPost B b (l ++ txt t) w)
/-- The texts of some trees with commas between them, behind j of them. -/
def sepText (txt : Ty → List UInt8) : Bool → List Ty → List UInt8
  | _, [] => []
  | first, t :: l => (if first then [] else [44, 32]) ++ txt t ++ sepText txt false l
theorem run_box76 (b : Nat) (w : World) : (Instr.box 76 (tv b)).run Tryd.prog w = .ok (.pointer (some ⟨w.heap.size, 0, none⟩)) (w.alloc (.cells #[.pointer (some ⟨b, 0, none⟩)] 76)) := by kernel_rfl
theorem u76 : Tryd.prog.underlying 76 = some (.struct (Tryd.prog.fieldsOf 76)) := by kernel_rfl
theorem info76 : (Tryd.prog.info? 76).map (·.size) = some 1 := by kernel_rfl
theorem g76 {w : World} {p b : Nat} {t : TypeId} {fr : Nat × Nat} (h : w.heap[p]? = some (.cells #[.pointer (some ⟨b, 0, none⟩)] t fr)) : RowAt w 76 ⟨p, 0, none⟩ #[.pointer (some ⟨b, 0, none⟩)] := row_mid (n := 1) h (by rfl) u76 rfl rfl info76
theorem g72 {w : World} {p : Nat} {v : Value} {t : TypeId} {fr : Nat × Nat} (h : w.heap[p]? = some (.cells #[v] t fr)) : OneAt w 72 ⟨p, 0, none⟩ v := one_of u72 rfl (by rw [cell_of_row _ _ _ _ _ _ h]; rfl)
section
variable {ops : Array Oper} {rest : List Oper} {dst : Option Tmp} {ty' : TypeId} {x : Operand} {pos : String} {after : Array Edge} {a : Act} {w : World} {Q : Exit → Act → World → Prop}
theorem wl_box76 {b : Nat} (hx : a.eval x = tv b)
    (h : ∀ W p, Below w.heap.size w W → w.heap.size ≤ p → W.heap[p]? = some (.cells #[.pointer (some ⟨b, 0, none⟩)] 76 (0, 0)) → wpList Tryd.prog ops Q rest (a.put dst (.pointer (some ⟨p, 0, none⟩))) W) :
    wpList Tryd.prog ops Q (⟨dst, .box 76 x, ty', pos, after, none⟩ :: rest) a w :=
  wl_w rfl (by unfold execOp; simp [hx, run_box76 b w, Result.andThen]) (h _ _ ((Below.refl _ w).alloc (Nat.le_refl _) _) (Nat.le_refl _) (ha_new rfl))
end
/-- The text of the first j trees. -/
theorem sep_step (txt : Ty → List UInt8) : ∀ (f : Bool) (l : List Ty) (j : Nat) (t : Ty), l[j]? = some t → sepText txt f (l.take (j + 1)) = sepText txt f (l.take j) ++ ((if f && j == 0 then [] else [44, 32]) ++ txt t)
  | _, [], j, t, h => by simp at h
  | f, u :: l, 0, t, h => by
    simp at h; subst h
    cases f <;> simp [sepText]
  | f, u :: l, j + 1, t, h => by
    have := sep_step txt false l j t (by simpa using h)
    simp only [List.take_succ_cons, sepText, this]
    simp
theorem sep_take (txt : Ty → List UInt8) : ∀ (f : Bool) (l : List Ty) (j : Nat), (sepText txt f (l.take j)).length ≤ (sepText txt f l).length
  | _, [], j => by simp [sepText]
  | f, u :: l, 0 => by simp [sepText]
  | f, u :: l, j + 1 => by
    have := sep_take txt false l j
    simp only [List.take_succ_cons, sepText, List.length_append]; omega
open Go.RowKit Go.Proofs.YtokmaehefenpmaaDoor.Nm
set_option linter.unusedSimpArgs false
set_option maxHeartbeats 4000000 in
set_option maxRecDepth 100000 in
theorem list_any (txt : Ty → List UInt8) (ts : List Ty) (hC : ∀ t, t ∈ ts → TypC txt t) (w : World) (B b : Nat) (l0 : List UInt8) (D : Nat → Prop) (A : Option Addr) (l c : Nat) (hBd : Bd w B b l0) (hB : B ≤ w.heap.size) (hlen : l0.length + (sepText txt true ts).length ≤ 1000000000) (hT : TysAt w D ts A l c) (hD : ∀ x, D x → x < B) :
    Calls Tryd.prog 83 #[tv b, .slice A l c] w (WPost B b (l0 ++ sepText txt true ts) w) := by
  have hmf : ∀ (fn : Fn) (first cap : Array Value) (w : World), (Instr.makeFunc fn first cap).run Tryd.prog w = .ok (.func fn first cap) w := fun _ _ _ _ => rfl
  have HT := Lib.hid hT
  have HL := Lib.hid hT.len
  have hcm := hT.cap
  have hmx := hT.max
  unfold maxLen at hmx
  have HI := Lib.hid hC
  have HD := Lib.hid hD
  have HLN := Lib.hid hlen
  have hbl := hBd.lt
  have HB0 := Lib.hid hBd
  clear hT hC hD hlen hBd
  have hb := Below.refl w.heap.size w
  go_enter Tryd.func83, Tryd.ntmps83
  go_upto_region 0 with (fail)
  apply wp_region_lit
  (with_reducible refine wl_box76 rfl ?_); intro W p hbn hlp hp; replace hb := hb.trans (hbn.mono hb.size); clear hbn; simp only [Zq]
  have hpb : p ≠ b := by omega
  have hK : Kb B b w W := Kb.of hb hB
  have HBd := Lib.hid (HB0.out.old hb)
  clear HB0 hb
  go_upto_region 1 with (fail)
  apply wp_region_lit
  ((with_reducible apply wl_rowG); exact rfl; exact rfl; exact g76 hp)
  simp only [Zq]
  (with_reducible refine wl_k ?_ ?_); exact rfl; intro K hK; go_simp; refine hK _ ?_; clear hK K
  (with_reducible refine wl_k ?_ ?_); exact rfl; intro K hK; go_simp; refine hK _ ?_; clear hK K
  go_wp2_with fail
  go_loopw [11] (fun i wr => ∃ j : Nat, j ≤ l ∧ i = .int .i64 (j : Int) ∧ Hid (Bd wr B b (l0 ++ sepText txt true (ts.take j))) ∧ Kb B b w wr ∧ wr.heap[p]? = some (.cells #[.pointer (some ⟨b, 0, none⟩)] 76 (0, 0))) (fun i _ => l - (intOf i).toNat)
  case atStart => exact ⟨0, by omega, rfl, Lib.hid (by simpa [sepText] using HBd.out), hK, hp⟩
  case round =>
    clear HBd hK hp
    obtain ⟨j, hj, rfl, HBd, hK, hp⟩ := hrel
    by_cases hlt : j < l
    · have hltI : (j : Int) < (l : Int) := by omega
      obtain ⟨ba, off, t, row, rfl, -, ht, -⟩ := HT.out.get hlt
      obtain ⟨row, hrow, hta⟩ := (HT.out.kb HD.out hK).rowK ht
      obtain ⟨k3, s3, n3, A3, l3, c3, ts3, ht3, rfl, -⟩ := hta.parts
      have HTB := Lib.hid hta
      have HST := Lib.hid (sep_step txt true ts j t ht)
      have HM := Lib.hid (List.mem_of_getElem? ht)
      have hs1 := sep_take txt true ts j
      have hs2 := sep_take txt true ts (j + 1)
      rw [HST.out] at hs2
      have hs3 := HLN.out
      simp only [List.length_append] at hs2
      have HLL := Lib.hid (show (l0 ++ sepText txt true (ts.take j)).length + (if true && j == 0 then [] else [(44 : UInt8), 32]).length + (txt t).length ≤ 1000000000 by simp only [List.length_append]; omega)
      clear hta ht ht3 hs1 hs2 hs3
      have hz := Below.refl wr.heap.size wr
      have hwB := hK.size
      go_upto_region 4 with (fail)
      apply wp_region_lit
      (with_reducible refine wl_k ?_ ?_); exact rfl; intro K hK; go_simp; refine hK _ ?_; clear hK K
      (with_reducible refine wl_k ?_ ?_); exact rfl; intro K hK; go_simp; refine hK _ ?_; clear hK K
      (first | ((with_reducible apply wl_oneG); exact rfl; exact rfl; first | exact f0 (by with_reducible assumption) | exact f1 (by with_reducible assumption) | exact f2 (by with_reducible assumption) | exact f3 (by with_reducible assumption) | with_reducible assumption | exact g22 (by with_reducible assumption) | exact g25 (by with_reducible assumption)) | ((with_reducible apply wl_rowG); exact rfl; exact rfl; first | with_reducible assumption | exact RowK.now (by with_reducible assumption) | exact f4 (by with_reducible assumption)))
      have lthpq := heap_lt hp; (with_reducible refine wl_all ?_); intro X1 q hbn hlq hq; replace hp := below_look hbn hp; replace hz := hz.trans (hbn.mono hz.size); clear hbn; simp only [Zq]
      (with_reducible refine wl_k ?_ ?_); exact rfl; intro K hK; go_simp; refine hK _ ?_; clear hK K
      (with_reducible refine wl_put rfl rfl hq ?_); rw [put_noneA]; intro X2 hbx hsz hkx hnx; replace hp := (hkx _ (by omega)).trans hp; replace hz := hbx _ _ (by omega) hz; clear hq; have hq := hnx; clear hnx
      clear hbx hkx hsz
      have hzs := hz.size
      have hqb : q ≠ b := by omega
      replace HBd := Lib.hid (HBd.out.old hz)
      replace hK := hK.trans (Kb.of (b := b) hz (by omega))
      replace HTB := Lib.hid (HTB.out.old hz)
      clear hrow hz
      by_cases hj0 : j = 0
      · have hj1 : ¬ (j : Int) > 0 := by omega
        have HEQ : Hid (sepText txt true (ts.take (j + 1)) = sepText txt true (ts.take j) ++ txt t) := Lib.hid (by rw [HST.out, hj0]; simp)
        have HC := Lib.hid (HI.out t HM.out X2 B b _ D _ HBd.out (by omega) (by have := HLL.out; omega) HTB.out HD.out)
        clear hj0 HST HLL
        go_upto_region 7 with (fail)
        apply wp_region_lit
        (with_reducible refine wl_k ?_ ?_); exact rfl; intro K hK; go_simp; refine hK _ ?_; clear hK K
        (first | ((with_reducible apply wl_oneG); exact rfl; exact rfl; first | exact f0 (by with_reducible assumption) | exact f1 (by with_reducible assumption) | exact f2 (by with_reducible assumption) | exact f3 (by with_reducible assumption) | with_reducible assumption | exact g22 (by with_reducible assumption) | exact g25 (by with_reducible assumption)) | ((with_reducible apply wl_rowG); exact rfl; exact rfl; first | with_reducible assumption | exact RowK.now (by with_reducible assumption) | exact f4 (by with_reducible assumption)))
        (with_reducible refine wl_ck ?_ ?_); exact rfl; intro K hK; go_simp; refine ⟨_, _, ⟨rfl, rfl⟩, hK _ _ ⟨_, HC.out, ?_⟩⟩; clear hK K; rintro e w7 ⟨rfl, hbd7, hk7⟩; refine ⟨_, rfl, ?_⟩; simp only [Zq]
        rw [List.append_assoc, ← HEQ.out] at hbd7
        have HBd7 := Lib.hid hbd7
        replace hp := hk7.look hp hpb (by decide)
        replace hK := hK.trans hk7
        clear hbd7 hk7 hq
        clear HBd HTB HC HM HEQ
        go_wp2_with fail
        go_roundw
        case rel => exact ⟨j + 1, by omega, by go_num, HBd7, hK, hp⟩
        case measure => simp [intOf]; omega
      · have hj1 : (j : Int) > 0 := by omega
        have hj2 : 0 < j := by omega
        have HEQ : Hid (sepText txt true (ts.take (j + 1)) = sepText txt true (ts.take j) ++ [44, 32] ++ txt t) := Lib.hid (by
          rw [HST.out, show (j == 0) = false by simp [hj0]]; simp)
        have HLL2 := Lib.hid (show (l0 ++ sepText txt true (ts.take j)).length + 2 + (txt t).length ≤ 1000000000 by
          have := HLL.out; rw [show (j == 0) = false by simp [hj0]] at this; simpa using this)
        clear hj0 HST HLL
        have HW := Lib.hid (WriteS B b _ cSep X2 HBd.out (by have := HLL2.out; have hc : cSep.size = 2 := rfl; omega) (by omega))
        go_upto_region 6 with (fail)
        apply wp_region_lit
        (with_reducible refine wl_k ?_ ?_); exact rfl; intro K hK; go_simp; refine hK _ ?_; clear hK K
        (with_reducible apply wl_oneG); exact rfl; exact rfl; exact g72 hp
        (with_reducible refine wl_ck ?_ ?_); exact rfl; intro K hK; go_simp; refine ⟨_, _, ⟨rfl, rfl⟩, hK _ _ ⟨_, HW.out, ?_⟩⟩; clear hK K; rintro e w6 ⟨rfl, hbd6, hk6⟩; refine ⟨_, rfl, ?_⟩; simp only [Zq]
        have hk6s := hk6.size
        replace HTB := Lib.hid (HTB.out.kb HD.out hk6)
        replace hp := hk6.look hp hpb (by decide)
        replace hq := hk6.look hq hqb (by decide)
        replace hK := hK.trans hk6
        have HBd6 := Lib.hid hbd6
        clear hk6 hbd6 HW HBd
        have HC := Lib.hid (HI.out t HM.out w6 B b _ D _ HBd6.out (by omega) (by have := HLL2.out; rw [List.length_append]; have hc : cSep.data.toList.length = 2 := rfl; omega) HTB.out HD.out)
        go_upto_region 7 with (fail)
        apply wp_region_lit
        (with_reducible refine wl_k ?_ ?_); exact rfl; intro K hK; go_simp; refine hK _ ?_; clear hK K
        (first | ((with_reducible apply wl_oneG); exact rfl; exact rfl; first | exact f0 (by with_reducible assumption) | exact f1 (by with_reducible assumption) | exact f2 (by with_reducible assumption) | exact f3 (by with_reducible assumption) | with_reducible assumption | exact g22 (by with_reducible assumption) | exact g25 (by with_reducible assumption)) | ((with_reducible apply wl_rowG); exact rfl; exact rfl; first | with_reducible assumption | exact RowK.now (by with_reducible assumption) | exact f4 (by with_reducible assumption)))
        (with_reducible refine wl_ck ?_ ?_); exact rfl; intro K hK; go_simp; refine ⟨_, _, ⟨rfl, rfl⟩, hK _ _ ⟨_, HC.out, ?_⟩⟩; clear hK K; rintro e w7 ⟨rfl, hbd7, hk7⟩; refine ⟨_, rfl, ?_⟩; simp only [Zq]
        have HBd7 : Hid (Bd w7 B b (l0 ++ sepText txt true (ts.take (j + 1)))) := Lib.hid (by
          rw [HEQ.out]; simpa [cSep] using hbd7)
        replace hp := hk7.look hp hpb (by decide)
        replace hK := hK.trans hk7
        clear hbd7 hk7 hq
        clear HTB HC HM HEQ HBd6 HLL2
        go_wp2_with fail
        go_roundw
        case rel => exact ⟨j + 1, by omega, by go_num, HBd7, hK, hp⟩
        case measure => simp [intOf]; omega
    · have hltI : ¬ (j : Int) < (l : Int) := by omega
      replace HBd : Hid (Bd wr B b (l0 ++ sepText txt true ts)) := Lib.hid (by have := HBd.out; rwa [List.take_of_length_le (by rw [HL.out]; omega)] at this)
      go_wp2_with fail
      go_end0
      exact ⟨rfl, HBd.out, hK⟩
theorem lit_cast {ops : Array Oper} (e : ops = opsW) : LitOps ops := by rw [e]; exact litOps
theorem ex_mm {o : Oper} (ho : o.op = .makeMap 104 none) (ev : Operand → Value) (w : World) : (execOp ev o).run Tryd.prog w = .ok (.value (.map (some w.heap.size))) (w.alloc (.map #[] 0)) := by
  unfold execOp
  simp [ho, run_makeMap, Result.andThen]
def wordOf (s : ByteArray) (z : ByteArray) (i : Nat) : ByteArray := valOf s (⟨#[36]⟩ ++ s) (⟨#[97, 110, 121, 32]⟩ ++ s) (⟨#[63]⟩ ++ z) i
theorem key8 : ∀ i, i ∈ insL → (keyOf i == 8) = false := by decide
theorem key10 : ∀ i, i ∈ insL → (keyOf i == 10) = false := by decide
theorem run_look {r : Nat} {es : Array MapEntry} {c : Nat} {k : Int} {m : Nat} {v : ByteArray} (w : World) (hb : w.heap[r]? = some (.map es c)) (hf : Instr.findNow (.int .i64) (.int .i64 k) es.toList 0 = some (some (m, .string v))) : (Instr.lookup 104 (.map (some r)) (.int .i64 k) false).run Tryd.prog w = .ok (.string v) w := by
  unfold Instr.lookup
  simp [Sem.run_bind, run_underlying u104, Result.andThen, MapKept.run_getObj_map hb, MapKept.run_checkKey u3 (k := .int .i64 k) rfl _ 9999, MapKept.run_findKey u3 hf]
theorem ex_look {ev : Operand → Value} {o : Oper} {w : World} (x y : Operand) (ho : o.op = .lookup 104 x y false) {r : Nat} {es : Array MapEntry} {c : Nat} {k : Int} {m : Nat} {v : ByteArray} (hx : ev x = .map (some r)) (hy : ev y = .int .i64 k) (hb : w.heap[r]? = some (.map es c)) (hf : Instr.findNow (.int .i64) (.int .i64 k) es.toList 0 = some (some (m, .string v))) :
    (execOp ev o).run Tryd.prog w = .ok (.value (.string v)) w := by
  unfold execOp
  simp [ho, hx, hy, run_look w hb hf, Result.andThen]
theorem run_cat (z : ByteArray) (hz : ¬ 9223372036854775807 < 1 + z.size) (A : Act) (hA : A.eval (.tmp 18) = .string z) (o : Oper) (w : World) (ho : o.op = .binOp .add 9 (.const (.string ⟨#[63]⟩)) (.tmp 18) 9) : (execOp A.eval o).run Tryd.prog w = .ok (.value (.string (⟨#[63]⟩ ++ z))) w := by
  have e2 : A.eval (.const (.string ⟨#[63]⟩)) = .string ⟨#[63]⟩ := rfl
  unfold execOp
  simp only [ho, hA, e2]
  have h3 := Tryd.underlying9
  simp [go_sem, hz]
/-- The ten entries come, from the start. -/
theorem lit_A {ops : Array Oper} (hO : LitOps ops) {W0 : World} {r : Nat} {n : Int} {v9 v12 v15 z : ByteArray} {A0 A1 A2 : Act} (h1 : A0.put (some 18) (.string z) = A1) (h2 : A1.put (some 19) (.string (⟨#[63]⟩ ++ z)) = A2) (hz : ¬ 9223372036854775807 < 1 + z.size) (hr : W0.heap.size ≤ r)
    (m0 : A0.eval (.tmp 7) = .map (some r) ∧ A0.eval (.tmp 9) = .string v9 ∧ A0.eval (.tmp 12) = .string v12 ∧ A0.eval (.tmp 15) = .string v15) (m1 : A1.eval (.tmp 7) = .map (some r) ∧ A1.eval (.tmp 9) = .string v9 ∧ A1.eval (.tmp 12) = .string v12 ∧ A1.eval (.tmp 15) = .string v15) (m2 : A2.eval (.tmp 7) = .map (some r) ∧ A2.eval (.tmp 9) = .string v9 ∧ A2.eval (.tmp 12) = .string v12 ∧ A2.eval (.tmp 15) = .string v15)
    (q1 : A1.eval (.tmp 18) = .string z) (q2 : A2.eval (.tmp 19) = .string (⟨#[63]⟩ ++ z)) (n0 : A0.eval (.tmp 17) = .int .i64 n) (call : ∀ w, Calls Tryd.prog 81 #[.int .i64 n] w fun e w' => e = .returned (.string z) ∧ w' = w)
    {Q : Exit → Act → World → Prop} {L : Array Bool} (hL : L = listedOf fun _ => false) {w : World} (hm : w.heap[r]? = some (.map #[] 0)) (hb : Below W0.heap.size W0 w)
    (hK : ∀ w es c, w.heap[r]? = some (.map es c) → GoodE (valOf v9 v12 v15 (⟨#[63]⟩ ++ z)) (fun _ => true) es → Below W0.heap.size W0 w → wpAnyH Tryd.prog .any ops Q (Below W0.heap.size W0) 2 (listedOf fun _ => true) A2 w) :
    wpAnyH Tryd.prog .any ops Q (Below W0.heap.size W0) 14 L A0 w := by
  subst hL
  have F : LitFr ops W0 r n v9 v12 v15 z (⟨#[63]⟩ ++ z) A0 A1 A2 := ⟨hr, fun A hA => by
    rcases hA with rfl | rfl | rfl
    · exact m0
    · exact m1
    · exact m2, q2, n0, fun w _ => call w, h1, fun o w ho => run_cat z hz A1 q1 o w ho, h2⟩
  exact lit_any hO F hK 12 (fun _ => false) (fun h => by cases h) (fun h => by cases h) rfl w #[] 0 hm ⟨fun e he => by simp at he, fun i _ h => by cases h⟩ hb
/-- They come, once the number's text is there. -/
theorem lit_B {ops : Array Oper} (hO : LitOps ops) {W0 : World} {r : Nat} {n : Int} {v9 v12 v15 z : ByteArray} {A : Act} (h1 : A.put (some 18) (.string z) = A) (h2 : A.put (some 19) (.string (⟨#[63]⟩ ++ z)) = A) (hz : ¬ 9223372036854775807 < 1 + z.size) (hr : W0.heap.size ≤ r)
    (m0 : A.eval (.tmp 7) = .map (some r) ∧ A.eval (.tmp 9) = .string v9 ∧ A.eval (.tmp 12) = .string v12 ∧ A.eval (.tmp 15) = .string v15)
    (q1 : A.eval (.tmp 18) = .string z) (q2 : A.eval (.tmp 19) = .string (⟨#[63]⟩ ++ z)) (n0 : A.eval (.tmp 17) = .int .i64 n) (call : ∀ w, Calls Tryd.prog 81 #[.int .i64 n] w fun e w' => e = .returned (.string z) ∧ w' = w)
    {Q : Exit → Act → World → Prop} {L : Array Bool} (hL : L = listedOf fun j => j == 20 || j == 21) {w : World} (hm : w.heap[r]? = some (.map #[] 0)) (hb : Below W0.heap.size W0 w)
    (hK : ∀ w es c, w.heap[r]? = some (.map es c) → GoodE (valOf v9 v12 v15 (⟨#[63]⟩ ++ z)) (fun _ => true) es → Below W0.heap.size W0 w → wpAnyH Tryd.prog .any ops Q (Below W0.heap.size W0) 2 (listedOf fun _ => true) A w) :
    wpAnyH Tryd.prog .any ops Q (Below W0.heap.size W0) 12 L A w := by
  subst hL
  have F : LitFr ops W0 r n v9 v12 v15 z (⟨#[63]⟩ ++ z) A A A := ⟨hr, fun A hA => by
    rcases hA with rfl | rfl | rfl <;> exact m0, q2, n0, fun w _ => call w, h1, fun o w ho => run_cat z hz A q1 o w ho, h2⟩
  have := lit_any hO F hK 10 (fun j => j == 20 || j == 21) (fun _ => rfl) (fun h => by simp at h) rfl w #[] 0 hm ⟨fun e he => by simp at he, fun i hi h => by
    have := ins_ne i hi
    simp only [Bool.or_eq_true, beq_iff_eq] at h
    rcases h with rfl | rfl
    · simp at this
    · simp at this⟩ hb
  have e : frOf A A A (fun j => j == 20 || j == 21) = A := rfl
  rw [e] at this
  exact this
set_option maxHeartbeats 4000000 in
set_option maxRecDepth 100000 in
theorem typ_simple (txt : Ty → List UInt8) (k : Int) (s : ByteArray) (n : Nat) (ts : List Ty) (i : Nat) (hi : i ∈ insL) (hk : keyOf i = k) (hn : n < 100) (hdl : (⟨(Lib.decDigits n).toArray⟩ : ByteArray).size ≤ 100) (hsz : s.size ≤ 1000000000) (hC : ∀ t, t ∈ ts → TypC txt t)
    (htxt : txt (.node k s n ts) = (wordOf s ⟨(Lib.decDigits n).toArray⟩ i).data.toList ++ if ts = [] then [] else [60] ++ sepText txt true ts ++ [62]) : TypC txt (.node k s n ts) := by
  intro w B b l0 D row hBd hB hlen h hD
  have hmf : ∀ (fn : Fn) (first cap : Array Value) (w : World), (Instr.makeFunc fn first cap).run Tryd.prog w = .ok (.func fn first cap) w := fun _ _ _ _ => rfl
  obtain ⟨k1, s1, n1, A, l, c, ts1, e, rfl, -, -, -, hT⟩ := h.parts
  cases e
  have HT := Lib.hid hT
  have HL := Lib.hid hT.len
  have HI := Lib.hid hC
  have HD := Lib.hid hD
  have HLN := Lib.hid hlen
  have HTX := Lib.hid htxt
  have hbl := hBd.lt
  have HB0 := Lib.hid hBd
  have HIN := Lib.hid hi
  have HKI := Lib.hid hk
  clear hT hC hD hlen hBd h htxt hi hk
  have hb := Below.refl w.heap.size w
  go_enter Tryd.func60, Tryd.ntmps60
  go_upto_region 0 with (fail)
  apply wp_region_lit
  (with_reducible refine wl_box76 rfl ?_); intro W p hbn hlp hp; replace hb := hb.trans (hbn.mono hb.size); clear hbn; simp only [Zq]
  have lthpq := heap_lt hp; (with_reducible refine wl_box rfl ?_); intro W0 q hbn hlq hq; replace hp := below_look hbn hp; replace hb := hb.trans (hbn.mono hb.size); clear hbn; simp only [Zq]
  have hpb : p ≠ b := by omega
  have hqb : q ≠ b := by have := heap_lt hp; omega
  have e8 : (k == 8) = false := by rw [← HKI.out]; exact key8 i HIN.out
  have e10 : (k == 10) = false := by rw [← HKI.out]; exact key10 i HIN.out
  have HWL : Hid ((wordOf s ⟨(Lib.decDigits n).toArray⟩ i).size ≤ (txt (.node k s n ts)).length) := Lib.hid (by rw [HTX.out, List.length_append]; exact Nat.le_add_right _ _)
  go_upto_region 1 with (fail)
  refine wp_region_held_drew (S := Below W0.heap.size W0) mixed ((Below.refl _ W0).drew) (fun hS => ?_)
  have hz1 : ¬ 9223372036854775807 < 1 + s.size := by omega
  have hz4 : ¬ 9223372036854775807 < 4 + s.size := by omega
  refine hk3 (i := 7) rfl (by kernel_rfl) Zh hS rfl (fun K hK => ?_); go_simp; refine hK _ ?_; clear hK K; try simp only [Zq]
  refine hv3 (i := 8) rfl (by kernel_rfl) Zg hS rfl (fun w' hw' => ex_one rfl (f1 (below_look hw' hq))) ?_; try simp only [Zq]
  refine hk3 (i := 10) rfl (by kernel_rfl) Zh hS rfl (fun K hK => ?_); go_simp; refine hK _ ?_; clear hK K; try simp only [Zq]
  refine hv3 (i := 11) rfl (by kernel_rfl) Zg hS rfl (fun w' hw' => ex_one rfl (f1 (below_look hw' hq))) ?_; try simp only [Zq]
  refine hk3 (i := 12) rfl (by kernel_rfl) Zh hS rfl (fun K hK => ?_); go_simp; refine hK _ ?_; clear hK K; try simp only [Zq]
  refine hk3 (i := 14) rfl (by kernel_rfl) Zh hS rfl (fun K hK => ?_); go_simp; refine hK _ ?_; clear hK K; try simp only [Zq]
  refine hv3 (i := 15) rfl (by kernel_rfl) Zg hS rfl (fun w' hw' => ex_one rfl (f1 (below_look hw' hq))) ?_; try simp only [Zq]
  refine hk3 (i := 16) rfl (by kernel_rfl) Zh hS rfl (fun K hK => ?_); go_simp; refine hK _ ?_; clear hK K; try simp only [Zq]
  refine hk3 (i := 18) rfl (by kernel_rfl) Zh hS rfl (fun K hK => ?_); go_simp; refine hK _ ?_; clear hK K; try simp only [Zq]
  refine hv3 (i := 19) rfl (by kernel_rfl) Zg hS rfl (fun w' hw' => ex_one rfl (f2 (below_look hw' hq))) ?_; try simp only [Zq]
  clear hz1 hz4
  obtain ⟨z, hz⟩ : ∃ z, z = (⟨(Lib.decDigits n).toArray⟩ : ByteArray) := ⟨_, rfl⟩
  have HZ := Lib.hid hz
  have hzl : ¬ 9223372036854775807 < 1 + z.size := by rw [hz]; omega
  have HCI : Hid (∀ w, Calls Tryd.prog 81 #[.int .i64 (n : Int)] w fun e w' => e = .returned (.string z) ∧ w' = w) := Lib.hid fun w => by rw [hz]; exact Tryd.strconv_Itoa_small n hn w
  clear hz
  refine ha_two (i := 0) (j := 20) (by kernel_rfl) ?_ ?_
  · have hbm : Below W0.heap.size W0 (W0.drew.alloc (.map #[] 0)) := (Below.refl _ W0).drew.alloc (Nat.le_refl _) _
    refine sh_do (i := 0) rfl rfl (ex_mm rfl _ _) hbm ?_
    try simp only [Zy]
    refine lit_A (lit_cast (by kernel_rfl)) rfl rfl hzl (r := W0.heap.size) (Nat.le_refl _) ⟨rfl, rfl, rfl, rfl⟩ ⟨rfl, rfl, rfl, rfl⟩ ⟨rfl, rfl, rfl, rfl⟩ rfl rfl rfl HCI.out (by kernel_rfl) (ha_new rfl) hbm ?_
    intro w1 es c1 hm hG hb1
    obtain ⟨m, hfind⟩ := hG.hit HIN.out rfl
    rw [HKI.out] at hfind
    have HFD := Lib.hid hfind
    obtain ⟨wd, hwd⟩ : ∃ wd, wd = wordOf s z i := ⟨_, rfl⟩
    replace HFD : Hid (Instr.findNow (.int .i64) (.int .i64 k) es.toList 0 = some (some (m, .string wd))) := Lib.hid (by rw [hwd]; exact hfind)
    have HWD := Lib.hid hwd
    have hS := hb1
    clear hG hfind hwd
    try simp only [Zy]
    refine hk3 (i := 23) rfl (by kernel_rfl) Zh hS rfl (fun K hK => ?_); go_simp; refine hK _ ?_; clear hK K; try simp only [Zq]
    refine hk3 (i := 24) rfl (by kernel_rfl) Zh hS rfl (fun K hK => ?_); go_simp; refine hK _ ?_; clear hK K; try simp only [Zq]
    clear hS
    refine wpAnyH_done (by kernel_rfl) ?_ _
    replace hp := below_look hb1 hp
    replace hq := below_look hb1 hq
    have hb2 := hb.trans (hb1.mono hb.size)
    have hK : Kb B b w w1 := Kb.of hb2 hB
    have HBd := Lib.hid (HB0.out.old hb2)
    have hsz1 := hb2.size
    have HTW := Lib.hid (HT.out.old hb2)
    clear hb1 hb2
    go_upto_region 2 with (fail)
    apply wp_region_lit
    (with_reducible refine wl_k ?_ ?_); exact rfl; intro K hK; go_simp; refine hK _ ?_; clear hK K
    (with_reducible apply wl_oneG); exact rfl; exact rfl; exact g72 hp
    (with_reducible refine wl_k ?_ ?_); exact rfl; intro K hK; go_simp; refine hK _ ?_; clear hK K
    (with_reducible refine wl_k ?_ ?_); exact rfl; intro K hK; go_simp; refine hK _ ?_; clear hK K
    go_upto_region 3 with (fail)
    apply wp_region_lit
    (with_reducible refine wl_k ?_ ?_); exact rfl; intro K hK; go_simp; refine hK _ ?_; clear hK K
    (first | ((with_reducible apply wl_oneG); exact rfl; exact rfl; first | exact f0 (by with_reducible assumption) | exact f1 (by with_reducible assumption) | exact f2 (by with_reducible assumption) | exact f3 (by with_reducible assumption) | with_reducible assumption | exact g22 (by with_reducible assumption) | exact g25 (by with_reducible assumption)) | ((with_reducible apply wl_rowG); exact rfl; exact rfl; first | with_reducible assumption | exact RowK.now (by with_reducible assumption) | exact f4 (by with_reducible assumption)))
    go_upto_region 9 with (fail)
    apply wp_region_lit
    (with_reducible refine wl_k ?_ ?_); exact rfl; intro K hK; go_simp; refine hK _ ?_; clear hK K
    (with_reducible refine wl_k ?_ ?_); exact rfl; intro K hK; go_simp; refine hK _ ?_; clear hK K
    go_upto_region 12 with (fail)
    apply wp_region_lit
    (with_reducible refine wl_k ?_ ?_); exact rfl; intro K hK; go_simp; refine hK _ ?_; clear hK K
    (with_reducible refine wl_k ?_ ?_); exact rfl; intro K hK; go_simp; refine hK _ ?_; clear hK K
    have HW := Lib.hid (WriteS B b _ wd w1 HBd.out (by have := HLN.out; have := HWL.out; rw [HWD.out, HZ.out]; omega) (by omega))
    go_upto_region 4 with (fail)
    apply wp_region_lit
    (with_reducible refine wl_k ?_ ?_); exact rfl; intro K hK; go_simp; refine hK _ ?_; clear hK K
    (with_reducible refine wl_k ?_ ?_); exact rfl; intro K hK; go_simp; refine hK _ ?_; clear hK K
    (with_reducible refine wl_k ?_ ?_); exact rfl; intro K hK; go_simp; refine hK _ ?_; clear hK K
    (first | ((with_reducible apply wl_oneG); exact rfl; exact rfl; first | exact f0 (by with_reducible assumption) | exact f1 (by with_reducible assumption) | exact f2 (by with_reducible assumption) | exact f3 (by with_reducible assumption) | with_reducible assumption | exact g22 (by with_reducible assumption) | exact g25 (by with_reducible assumption)) | ((with_reducible apply wl_rowG); exact rfl; exact rfl; first | with_reducible assumption | exact RowK.now (by with_reducible assumption) | exact f4 (by with_reducible assumption)))
    refine wl_val rfl (ex_look _ _ rfl rfl rfl hm HFD.out) ?_
    simp only [Zq]
    (with_reducible refine wl_ck ?_ ?_); exact rfl; intro K hK; go_simp; refine ⟨_, _, ⟨rfl, rfl⟩, hK _ _ ⟨_, HW.out, ?_⟩⟩; clear hK K; rintro e w6 ⟨rfl, hbd6, hk6⟩; refine ⟨_, rfl, ?_⟩; simp only [Zq]
    replace HTW := Lib.hid (HTW.out.kb HD.out hk6)
    replace hp := hk6.look hp hpb (by decide)
    replace hq := hk6.look hq hqb (by decide)
    have hsz6 := hk6.size
    replace hK := hK.trans hk6
    replace HBd := Lib.hid hbd6
    clear hk6 hbd6 HW hm HFD
    by_cases hts : ts = []
    · have hl0 : l = 0 := by rw [← HL.out, hts]; rfl
      have HFIN : Hid (l0 ++ txt (.node k s n ts) = l0 ++ wd.data.toList) := Lib.hid (by rw [HTX.out, if_pos hts, List.append_nil, HWD.out, HZ.out])
      subst hl0
      clear hts
      go_upto_region 5 with (fail)
      apply wp_region_lit
      (with_reducible refine wl_k ?_ ?_); exact rfl; intro K hK; go_simp; refine hK _ ?_; clear hK K
      (first | ((with_reducible apply wl_oneG); exact rfl; exact rfl; first | exact f0 (by with_reducible assumption) | exact f1 (by with_reducible assumption) | exact f2 (by with_reducible assumption) | exact f3 (by with_reducible assumption) | with_reducible assumption | exact g22 (by with_reducible assumption) | exact g25 (by with_reducible assumption)) | ((with_reducible apply wl_rowG); exact rfl; exact rfl; first | with_reducible assumption | exact RowK.now (by with_reducible assumption) | exact f4 (by with_reducible assumption)))
      (with_reducible refine wl_k ?_ ?_); exact rfl; intro K hK; go_simp; refine hK _ ?_; clear hK K
      (with_reducible refine wl_k ?_ ?_); exact rfl; intro K hK; go_simp; refine hK _ ?_; clear hK K
      go_wp2_with fail
      go_end0
      exact ⟨rfl, by rw [HFIN.out]; exact HBd.out, hK⟩
    · have hlp : (l : Int) > 0 := by have := HL.out; have : 0 < ts.length := List.length_pos_iff.2 hts; omega
      have hlp2 : 0 < l := by omega
      have HFIN : Hid (l0 ++ txt (.node k s n ts) = l0 ++ wd.data.toList ++ [60] ++ sepText txt true ts ++ [62]) := Lib.hid (by rw [HTX.out, if_neg hts, HWD.out, HZ.out]; simp)
      have HLF := Lib.hid (show l0.length + wd.data.toList.length + 1 + (sepText txt true ts).length + 1 ≤ 1000000000 by
        have h1 := HLN.out
        have h2 := congrArg List.length HFIN.out
        simp only [List.length_append, List.length_cons, List.length_nil] at h2
        omega)
      clear hts
      have HW2 := Lib.hid (WriteS B b _ ⟨#[60]⟩ w6 HBd.out (by have := HLF.out; rw [List.length_append]; have hc : (⟨#[60]⟩ : ByteArray).size = 1 := rfl; omega) (by omega))
      go_upto_region 5 with (fail)
      apply wp_region_lit
      (with_reducible refine wl_k ?_ ?_); exact rfl; intro K hK; go_simp; refine hK _ ?_; clear hK K
      (first | ((with_reducible apply wl_oneG); exact rfl; exact rfl; first | exact f0 (by with_reducible assumption) | exact f1 (by with_reducible assumption) | exact f2 (by with_reducible assumption) | exact f3 (by with_reducible assumption) | with_reducible assumption | exact g22 (by with_reducible assumption) | exact g25 (by with_reducible assumption)) | ((with_reducible apply wl_rowG); exact rfl; exact rfl; first | with_reducible assumption | exact RowK.now (by with_reducible assumption) | exact f4 (by with_reducible assumption)))
      (with_reducible refine wl_k ?_ ?_); exact rfl; intro K hK; go_simp; refine hK _ ?_; clear hK K
      (with_reducible refine wl_k ?_ ?_); exact rfl; intro K hK; go_simp; refine hK _ ?_; clear hK K
      go_upto_region 6 with (fail)
      apply wp_region_lit
      (with_reducible refine wl_k ?_ ?_); exact rfl; intro K hK; go_simp; refine hK _ ?_; clear hK K
      (with_reducible refine wl_ck ?_ ?_); exact rfl; intro K hK; go_simp; refine ⟨_, _, ⟨rfl, rfl⟩, hK _ _ ⟨_, HW2.out, ?_⟩⟩; clear hK K; rintro e w7 ⟨rfl, hbd7, hk7⟩; refine ⟨_, rfl, ?_⟩; simp only [Zq]
      replace HTW := Lib.hid (HTW.out.kb HD.out hk7)
      replace hp := hk7.look hp hpb (by decide)
      replace hq := hk7.look hq hqb (by decide)
      have hsz7 := hk7.size
      replace hK := hK.trans hk7
      replace HBd : Hid (Bd w7 B b (l0 ++ wd.data.toList ++ [60])) := Lib.hid hbd7
      clear hk7 hbd7 HW2
      have HC := Lib.hid (list_any txt ts HI.out w7 B b _ D A l c HBd.out (by omega) (by have := HLF.out; simp only [List.length_append, List.length_cons, List.length_nil]; omega) HTW.out HD.out)
      go_upto_region 7 with (fail)
      apply wp_region_lit
      (with_reducible apply wl_rowG); exact rfl; exact rfl; exact g76 hp
      (with_reducible refine wl_k ?_ ?_); exact rfl; intro K hK; go_simp; refine hK _ ?_; clear hK K
      (first | ((with_reducible apply wl_oneG); exact rfl; exact rfl; first | exact f0 (by with_reducible assumption) | exact f1 (by with_reducible assumption) | exact f2 (by with_reducible assumption) | exact f3 (by with_reducible assumption) | with_reducible assumption | exact g22 (by with_reducible assumption) | exact g25 (by with_reducible assumption)) | ((with_reducible apply wl_rowG); exact rfl; exact rfl; first | with_reducible assumption | exact RowK.now (by with_reducible assumption) | exact f4 (by with_reducible assumption)))
      (with_reducible refine wl_ck ?_ ?_); exact rfl; intro K hK; go_simp; refine ⟨_, _, ⟨rfl, rfl⟩, hK _ _ ⟨_, HC.out, ?_⟩⟩; clear hK K; rintro e w8 ⟨rfl, hbd8, hk8⟩; refine ⟨_, rfl, ?_⟩; simp only [Zq]
      have hsz8 := hk8.size
      replace hK := hK.trans hk8
      replace HBd := Lib.hid hbd8
      clear hk8 hbd8 HC hp hq
      have HW3 := Lib.hid (WriteS B b _ ⟨#[62]⟩ w8 HBd.out (by have := HLF.out; simp only [List.length_append, List.length_cons, List.length_nil]; have hc : (⟨#[62]⟩ : ByteArray).size = 1 := rfl; omega) (by omega))
      go_upto_region 8 with (fail)
      apply wp_region_lit
      (with_reducible refine wl_k ?_ ?_); exact rfl; intro K hK; go_simp; refine hK _ ?_; clear hK K
      (with_reducible refine wl_ck ?_ ?_); exact rfl; intro K hK; go_simp; refine ⟨_, _, ⟨rfl, rfl⟩, hK _ _ ⟨_, HW3.out, ?_⟩⟩; clear hK K; rintro e w9 ⟨rfl, hbd9, hk9⟩; refine ⟨_, rfl, ?_⟩; simp only [Zq]
      replace hK := hK.trans hk9
      replace HBd : Hid (Bd w9 B b (l0 ++ wd.data.toList ++ [60] ++ sepText txt true ts ++ [62])) := Lib.hid hbd9
      clear hk9 hbd9 HW3
      go_wp2_with fail
      go_end0
      exact ⟨rfl, by rw [HFIN.out]; exact HBd.out, hK⟩
  · refine sh_call (i := 20) rfl rfl (fun K hK => ?_)
    go_simp; refine ⟨_, _, ⟨rfl, rfl⟩, hK _ _ ⟨_, HCI.out _, ?_⟩⟩; clear hK K; rintro e w20 ⟨rfl, rfl⟩; refine ⟨_, rfl, (Below.refl _ W0).drew, ?_⟩
    try simp only [Zy]
    refine hk3 (i := 21) rfl (by kernel_rfl) Zh hS rfl (fun K hK => ?_); go_simp; refine hK _ ?_; clear hK K; try simp only [Zq]
    have hbm : Below W0.heap.size W0 (W0.drew.alloc (.map #[] 0)) := (Below.refl _ W0).drew.alloc (Nat.le_refl _) _
    refine ha_do (i := 0) (by kernel_rfl) rfl rfl (ex_mm rfl _ _) hbm ?_
    try simp only [Zy]
    refine lit_B (lit_cast (by kernel_rfl)) rfl rfl hzl (r := W0.heap.size) (Nat.le_refl _) ⟨rfl, rfl, rfl, rfl⟩ rfl rfl rfl HCI.out (by kernel_rfl) (ha_new rfl) hbm ?_
    intro w1 es c1 hm hG hb1
    obtain ⟨m, hfind⟩ := hG.hit HIN.out rfl
    rw [HKI.out] at hfind
    have HFD := Lib.hid hfind
    obtain ⟨wd, hwd⟩ : ∃ wd, wd = wordOf s z i := ⟨_, rfl⟩
    replace HFD : Hid (Instr.findNow (.int .i64) (.int .i64 k) es.toList 0 = some (some (m, .string wd))) := Lib.hid (by rw [hwd]; exact hfind)
    have HWD := Lib.hid hwd
    have hS := hb1
    clear hG hfind hwd
    try simp only [Zy]
    refine hk3 (i := 23) rfl (by kernel_rfl) Zh hS rfl (fun K hK => ?_); go_simp; refine hK _ ?_; clear hK K; try simp only [Zq]
    refine hk3 (i := 24) rfl (by kernel_rfl) Zh hS rfl (fun K hK => ?_); go_simp; refine hK _ ?_; clear hK K; try simp only [Zq]
    clear hS
    refine wpAnyH_done (by kernel_rfl) ?_ _
    replace hp := below_look hb1 hp
    replace hq := below_look hb1 hq
    have hb2 := hb.trans (hb1.mono hb.size)
    have hK : Kb B b w w1 := Kb.of hb2 hB
    have HBd := Lib.hid (HB0.out.old hb2)
    have hsz1 := hb2.size
    have HTW := Lib.hid (HT.out.old hb2)
    clear hb1 hb2
    go_upto_region 2 with (fail)
    apply wp_region_lit
    (with_reducible refine wl_k ?_ ?_); exact rfl; intro K hK; go_simp; refine hK _ ?_; clear hK K
    (with_reducible apply wl_oneG); exact rfl; exact rfl; exact g72 hp
    (with_reducible refine wl_k ?_ ?_); exact rfl; intro K hK; go_simp; refine hK _ ?_; clear hK K
    (with_reducible refine wl_k ?_ ?_); exact rfl; intro K hK; go_simp; refine hK _ ?_; clear hK K
    go_upto_region 3 with (fail)
    apply wp_region_lit
    (with_reducible refine wl_k ?_ ?_); exact rfl; intro K hK; go_simp; refine hK _ ?_; clear hK K
    (first | ((with_reducible apply wl_oneG); exact rfl; exact rfl; first | exact f0 (by with_reducible assumption) | exact f1 (by with_reducible assumption) | exact f2 (by with_reducible assumption) | exact f3 (by with_reducible assumption) | with_reducible assumption | exact g22 (by with_reducible assumption) | exact g25 (by with_reducible assumption)) | ((with_reducible apply wl_rowG); exact rfl; exact rfl; first | with_reducible assumption | exact RowK.now (by with_reducible assumption) | exact f4 (by with_reducible assumption)))
    go_upto_region 9 with (fail)
    apply wp_region_lit
    (with_reducible refine wl_k ?_ ?_); exact rfl; intro K hK; go_simp; refine hK _ ?_; clear hK K
    (with_reducible refine wl_k ?_ ?_); exact rfl; intro K hK; go_simp; refine hK _ ?_; clear hK K
    go_upto_region 12 with (fail)
    apply wp_region_lit
    (with_reducible refine wl_k ?_ ?_); exact rfl; intro K hK; go_simp; refine hK _ ?_; clear hK K
    (with_reducible refine wl_k ?_ ?_); exact rfl; intro K hK; go_simp; refine hK _ ?_; clear hK K
    have HW := Lib.hid (WriteS B b _ wd w1 HBd.out (by have := HLN.out; have := HWL.out; rw [HWD.out, HZ.out]; omega) (by omega))
    go_upto_region 4 with (fail)
    apply wp_region_lit
    (with_reducible refine wl_k ?_ ?_); exact rfl; intro K hK; go_simp; refine hK _ ?_; clear hK K
    (with_reducible refine wl_k ?_ ?_); exact rfl; intro K hK; go_simp; refine hK _ ?_; clear hK K
    (with_reducible refine wl_k ?_ ?_); exact rfl; intro K hK; go_simp; refine hK _ ?_; clear hK K
    (first | ((with_reducible apply wl_oneG); exact rfl; exact rfl; first | exact f0 (by with_reducible assumption) | exact f1 (by with_reducible assumption) | exact f2 (by with_reducible assumption) | exact f3 (by with_reducible assumption) | with_reducible assumption | exact g22 (by with_reducible assumption) | exact g25 (by with_reducible assumption)) | ((with_reducible apply wl_rowG); exact rfl; exact rfl; first | with_reducible assumption | exact RowK.now (by with_reducible assumption) | exact f4 (by with_reducible assumption)))
    refine wl_val rfl (ex_look _ _ rfl rfl rfl hm HFD.out) ?_
    simp only [Zq]
    (with_reducible refine wl_ck ?_ ?_); exact rfl; intro K hK; go_simp; refine ⟨_, _, ⟨rfl, rfl⟩, hK _ _ ⟨_, HW.out, ?_⟩⟩; clear hK K; rintro e w6 ⟨rfl, hbd6, hk6⟩; refine ⟨_, rfl, ?_⟩; simp only [Zq]
    replace HTW := Lib.hid (HTW.out.kb HD.out hk6)
    replace hp := hk6.look hp hpb (by decide)
    replace hq := hk6.look hq hqb (by decide)
    have hsz6 := hk6.size
    replace hK := hK.trans hk6
    replace HBd := Lib.hid hbd6
    clear hk6 hbd6 HW hm HFD
    by_cases hts : ts = []
    · have hl0 : l = 0 := by rw [← HL.out, hts]; rfl
      have HFIN : Hid (l0 ++ txt (.node k s n ts) = l0 ++ wd.data.toList) := Lib.hid (by rw [HTX.out, if_pos hts, List.append_nil, HWD.out, HZ.out])
      subst hl0
      clear hts
      go_upto_region 5 with (fail)
      apply wp_region_lit
      (with_reducible refine wl_k ?_ ?_); exact rfl; intro K hK; go_simp; refine hK _ ?_; clear hK K
      (first | ((with_reducible apply wl_oneG); exact rfl; exact rfl; first | exact f0 (by with_reducible assumption) | exact f1 (by with_reducible assumption) | exact f2 (by with_reducible assumption) | exact f3 (by with_reducible assumption) | with_reducible assumption | exact g22 (by with_reducible assumption) | exact g25 (by with_reducible assumption)) | ((with_reducible apply wl_rowG); exact rfl; exact rfl; first | with_reducible assumption | exact RowK.now (by with_reducible assumption) | exact f4 (by with_reducible assumption)))
      (with_reducible refine wl_k ?_ ?_); exact rfl; intro K hK; go_simp; refine hK _ ?_; clear hK K
      (with_reducible refine wl_k ?_ ?_); exact rfl; intro K hK; go_simp; refine hK _ ?_; clear hK K
      go_wp2_with fail
      go_end0
      exact ⟨rfl, by rw [HFIN.out]; exact HBd.out, hK⟩
    · have hlp : (l : Int) > 0 := by have := HL.out; have : 0 < ts.length := List.length_pos_iff.2 hts; omega
      have hlp2 : 0 < l := by omega
      have HFIN : Hid (l0 ++ txt (.node k s n ts) = l0 ++ wd.data.toList ++ [60] ++ sepText txt true ts ++ [62]) := Lib.hid (by rw [HTX.out, if_neg hts, HWD.out, HZ.out]; simp)
      have HLF := Lib.hid (show l0.length + wd.data.toList.length + 1 + (sepText txt true ts).length + 1 ≤ 1000000000 by
        have h1 := HLN.out
        have h2 := congrArg List.length HFIN.out
        simp only [List.length_append, List.length_cons, List.length_nil] at h2
        omega)
      clear hts
      have HW2 := Lib.hid (WriteS B b _ ⟨#[60]⟩ w6 HBd.out (by have := HLF.out; rw [List.length_append]; have hc : (⟨#[60]⟩ : ByteArray).size = 1 := rfl; omega) (by omega))
      go_upto_region 5 with (fail)
      apply wp_region_lit
      (with_reducible refine wl_k ?_ ?_); exact rfl; intro K hK; go_simp; refine hK _ ?_; clear hK K
      (first | ((with_reducible apply wl_oneG); exact rfl; exact rfl; first | exact f0 (by with_reducible assumption) | exact f1 (by with_reducible assumption) | exact f2 (by with_reducible assumption) | exact f3 (by with_reducible assumption) | with_reducible assumption | exact g22 (by with_reducible assumption) | exact g25 (by with_reducible assumption)) | ((with_reducible apply wl_rowG); exact rfl; exact rfl; first | with_reducible assumption | exact RowK.now (by with_reducible assumption) | exact f4 (by with_reducible assumption)))
      (with_reducible refine wl_k ?_ ?_); exact rfl; intro K hK; go_simp; refine hK _ ?_; clear hK K
      (with_reducible refine wl_k ?_ ?_); exact rfl; intro K hK; go_simp; refine hK _ ?_; clear hK K
      go_upto_region 6 with (fail)
      apply wp_region_lit
      (with_reducible refine wl_k ?_ ?_); exact rfl; intro K hK; go_simp; refine hK _ ?_; clear hK K
      (with_reducible refine wl_ck ?_ ?_); exact rfl; intro K hK; go_simp; refine ⟨_, _, ⟨rfl, rfl⟩, hK _ _ ⟨_, HW2.out, ?_⟩⟩; clear hK K; rintro e w7 ⟨rfl, hbd7, hk7⟩; refine ⟨_, rfl, ?_⟩; simp only [Zq]
      replace HTW := Lib.hid (HTW.out.kb HD.out hk7)
      replace hp := hk7.look hp hpb (by decide)
      replace hq := hk7.look hq hqb (by decide)
      have hsz7 := hk7.size
      replace hK := hK.trans hk7
      replace HBd : Hid (Bd w7 B b (l0 ++ wd.data.toList ++ [60])) := Lib.hid hbd7
      clear hk7 hbd7 HW2
      have HC := Lib.hid (list_any txt ts HI.out w7 B b _ D A l c HBd.out (by omega) (by have := HLF.out; simp only [List.length_append, List.length_cons, List.length_nil]; omega) HTW.out HD.out)
      go_upto_region 7 with (fail)
      apply wp_region_lit
      (with_reducible apply wl_rowG); exact rfl; exact rfl; exact g76 hp
      (with_reducible refine wl_k ?_ ?_); exact rfl; intro K hK; go_simp; refine hK _ ?_; clear hK K
      (first | ((with_reducible apply wl_oneG); exact rfl; exact rfl; first | exact f0 (by with_reducible assumption) | exact f1 (by with_reducible assumption) | exact f2 (by with_reducible assumption) | exact f3 (by with_reducible assumption) | with_reducible assumption | exact g22 (by with_reducible assumption) | exact g25 (by with_reducible assumption)) | ((with_reducible apply wl_rowG); exact rfl; exact rfl; first | with_reducible assumption | exact RowK.now (by with_reducible assumption) | exact f4 (by with_reducible assumption)))
      (with_reducible refine wl_ck ?_ ?_); exact rfl; intro K hK; go_simp; refine ⟨_, _, ⟨rfl, rfl⟩, hK _ _ ⟨_, HC.out, ?_⟩⟩; clear hK K; rintro e w8 ⟨rfl, hbd8, hk8⟩; refine ⟨_, rfl, ?_⟩; simp only [Zq]
      have hsz8 := hk8.size
      replace hK := hK.trans hk8
      replace HBd := Lib.hid hbd8
      clear hk8 hbd8 HC hp hq
      have HW3 := Lib.hid (WriteS B b _ ⟨#[62]⟩ w8 HBd.out (by have := HLF.out; simp only [List.length_append, List.length_cons, List.length_nil]; have hc : (⟨#[62]⟩ : ByteArray).size = 1 := rfl; omega) (by omega))
      go_upto_region 8 with (fail)
      apply wp_region_lit
      (with_reducible refine wl_k ?_ ?_); exact rfl; intro K hK; go_simp; refine hK _ ?_; clear hK K
      (with_reducible refine wl_ck ?_ ?_); exact rfl; intro K hK; go_simp; refine ⟨_, _, ⟨rfl, rfl⟩, hK _ _ ⟨_, HW3.out, ?_⟩⟩; clear hK K; rintro e w9 ⟨rfl, hbd9, hk9⟩; refine ⟨_, rfl, ?_⟩; simp only [Zq]
      replace hK := hK.trans hk9
      replace HBd : Hid (Bd w9 B b (l0 ++ wd.data.toList ++ [60] ++ sepText txt true ts ++ [62])) := Lib.hid hbd9
      clear hk9 hbd9 HW3
      go_wp2_with fail
      go_end0
      exact ⟨rfl, by rw [HFIN.out]; exact HBd.out, hK⟩
theorem built24k (k : Int) : Tryd.prog.built 24 [(0, .int .i64 k)] = some (cell4 k ⟨#[]⟩ 0 none 0 0) := by kernel_rfl
theorem ex_alloc74 {o : Oper} (ho : o.op = .alloc 74) (ev : Operand → Value) (w : World) : (execOp ev o).run Tryd.prog w = .ok (.value (.pointer (some ⟨w.heap.size, 0, none⟩))) (w.alloc (.cells #[.pointer none, .slice none 0 0] 74)) := by
  unfold execOp
  simp only [ho]
  kernel_rfl
theorem built76 (b : Nat) : Tryd.prog.built 76 [(0, .pointer (some ⟨b, 0, none⟩))] = some #[.pointer (some ⟨b, 0, none⟩)] := by kernel_rfl
theorem Bd_new (w : World) : Bd (w.alloc (.cells #[.pointer none, .slice none 0 0] 74)) w.heap.size w.heap.size [] :=
  Or.inl ⟨Nat.le_refl _, .slice none 0 0, ha_new rfl, World.ownsRowF_nil _ _ _ _, by simp [Value.ownBlock]⟩
set_option maxHeartbeats 4000000 in
set_option maxRecDepth 100000 in
/-- Format of a tree that is open. -/
theorem Format_ok (txt : Ty → List UInt8) (t : Ty) (w : World) (D : Nat → Prop) (row : Array Value) (h : TyAt w D t row) (hO : ∀ w' D', TyAt w' D' t row → Calls Tryd.prog 59 #[.agg row] w' fun e w2 => e = .returned (.bool true) ∧ Below w'.heap.size w' w2) (hC : TypC txt t) (hlen : (txt t).length ≤ 1000000000) :
    Calls Tryd.prog 33 #[.agg row] w fun e w' => e = .returned (.tuple #[.string ⟨(txt t).toArray⟩, .int .i64 0]) ∧ Below w.heap.size w w' := by
  obtain ⟨D, h, hlow⟩ : ∃ D : Nat → Prop, TyAt w D t row ∧ ∀ b, D b → b < w.heap.size := ⟨fun b => D b ∧ b < w.heap.size, h.low, fun b hb => hb.2⟩
  obtain ⟨k, s, n, A, l, c, ts, he, rfl, -⟩ := h.parts
  have HT := Lib.hid h
  have HLW := Lib.hid hlow
  have HO := Lib.hid hO
  have HTC := Lib.hid hC
  have HLN := Lib.hid hlen
  clear h hlow hO hC hlen he
  have hb := Below.refl w.heap.size w
  go_enter Tryd.func33, Tryd.ntmps33
  go_upto_region 0 with (fail)
  apply wp_region_lit
  (with_reducible refine wl_box rfl ?_); intro W p hbn hlp hp; replace hb := hb.trans (hbn.mono hb.size); clear hbn; simp only [Zq]
  (with_reducible refine wl_k ?_ ?_); exact rfl; intro K hK; go_simp; refine hK _ ?_; clear hK K
  (with_reducible refine wl_k ?_ ?_); exact rfl; intro K hK; go_simp; refine hK _ ?_; clear hK K
  have HC := Lib.hid (HO.out W D (HT.out.old hb))
  go_upto_region 1 with (fail)
  apply wp_region_lit
  (first | ((with_reducible apply wl_oneG); exact rfl; exact rfl; first | exact f0 (by with_reducible assumption) | exact f1 (by with_reducible assumption) | exact f2 (by with_reducible assumption) | exact f3 (by with_reducible assumption) | with_reducible assumption | exact g22 (by with_reducible assumption) | exact g25 (by with_reducible assumption)) | ((with_reducible apply wl_rowG); exact rfl; exact rfl; first | with_reducible assumption | exact RowK.now (by with_reducible assumption) | exact f4 (by with_reducible assumption)))
  (with_reducible refine wl_ck ?_ ?_); exact rfl; intro K hK; go_simp; refine ⟨_, _, ⟨rfl, rfl⟩, hK _ _ ⟨_, HC.out, ?_⟩⟩; clear hK K; rintro e w6 ⟨rfl, hb6⟩; refine ⟨_, rfl, ?_⟩; simp only [Zq]
  (with_reducible refine wl_k ?_ ?_); exact rfl; intro K hK; go_simp; refine hK _ ?_; clear hK K
  replace hp := below_look hb6 hp; replace hb := hb.trans (hb6.mono hb.size); clear hb6
  clear HC HO
  go_upto_region 3 with (fail)
  apply wp_region_lit
  refine wl_w rfl (ex_alloc74 rfl _ _) ?_
  simp only [Zq]
  have HBd := Lib.hid (Bd_new w6)
  have hb7 := (Below.refl w6.heap.size w6).alloc (Nat.le_refl _) (.cells #[.pointer none, .slice none 0 0] 74)
  have hsz : w6.heap.size ≤ (w6.alloc (.cells #[.pointer none, .slice none 0 0] 74)).heap.size := hb7.size
  have hpl := heap_lt hp
  have hps := hb.size
  replace hp := below_look hb7 hp
  replace hb := hb.trans (hb7.mono hps)
  generalize hW : w6.alloc (.cells #[.pointer none, .slice none 0 0] 74) = W2 at *
  clear hW hb7
  obtain ⟨b, hbe⟩ : ∃ b, b = w6.heap.size := ⟨_, rfl⟩
  rw [← hbe] at HBd hsz ⊢
  have hbw : w.heap.size ≤ b := by omega
  clear hbe hpl hps
  have HC := Lib.hid (HTC.out W2 b b [] D _ HBd.out hsz (by simpa using HLN.out) (HT.out.old hb) (fun x hx => by have := HLW.out x hx; omega))
  go_upto_region 4 with (fail)
  apply wp_region_lit
  refine wl_val rfl (ex_build 76 _ rfl (L := [(0, .pointer (some ⟨b, 0, none⟩))]) rfl (built76 b)) ?_
  simp only [Zq]
  (first | ((with_reducible apply wl_oneG); exact rfl; exact rfl; first | exact f0 (by with_reducible assumption) | exact f1 (by with_reducible assumption) | exact f2 (by with_reducible assumption) | exact f3 (by with_reducible assumption) | with_reducible assumption | exact g22 (by with_reducible assumption) | exact g25 (by with_reducible assumption)) | ((with_reducible apply wl_rowG); exact rfl; exact rfl; first | with_reducible assumption | exact RowK.now (by with_reducible assumption) | exact f4 (by with_reducible assumption)))
  (with_reducible refine wl_ck ?_ ?_); exact rfl; intro K hK; go_simp; refine ⟨_, _, ⟨rfl, rfl⟩, hK _ _ ⟨_, HC.out, ?_⟩⟩; clear hK K; rintro e w8 ⟨rfl, hbd8, hk8⟩; refine ⟨_, rfl, ?_⟩; simp only [Zq]
  rw [List.nil_append] at hbd8
  replace hb := hb.trans (hk8.below.mono hbw)
  have hs8 := hk8.size
  have HS := Lib.hid (Tryd.Builder_String_any_k b b (txt t) w8 hbd8 (by omega))
  clear hbd8 hk8 HC hp HBd
  go_upto_region 5 with (fail)
  apply wp_region_lit
  (with_reducible refine wl_ck ?_ ?_); exact rfl; intro K hK; go_simp; refine ⟨_, _, ⟨rfl, rfl⟩, hK _ _ ⟨_, HS.out, ?_⟩⟩; clear hK K; rintro e w9 ⟨rfl, -, hb9, -⟩; refine ⟨_, rfl, ?_⟩; simp only [Zq]
  (with_reducible refine wl_k ?_ ?_); exact rfl; intro K hK; go_simp; refine hK _ ?_; clear hK K
  (with_reducible refine wl_k ?_ ?_); exact rfl; intro K hK; go_simp; refine hK _ ?_; clear hK K
  replace hb := hb.trans (hb9.mono hbw)
  clear hb9 HS
  go_wp2_with fail
  go_ret2
  exact ⟨rfl, hb⟩
def textA (t : Ty) : List UInt8 := if t = arrTy then [65, 114, 114, 97, 121, 60, 73, 110, 116, 62] else [73, 110, 116]
theorem dig0 : (⟨(Lib.decDigits 0).toArray⟩ : ByteArray).size ≤ 100 := by simp [Lib.decDigits, ByteArray.size]
theorem typ_int : TypC textA intTy := typ_simple textA 1 ⟨#[]⟩ 0 [] 1 (by decide) rfl (by omega) dig0 (by decide) (fun t h => by cases h) rfl
theorem typ_arr : TypC textA arrTy := typ_simple textA 5 ⟨#[]⟩ 0 [intTy] 5 (by decide) rfl (by omega) dig0 (by decide) (fun t h => by simp at h; subst h; exact typ_int) rfl
theorem open_arr (w : World) (D : Nat → Prop) (row : Array Value) (h : TyAt w D arrTy row) : Calls Tryd.prog 59 #[.agg row] w fun e w2 => e = .returned (.bool true) ∧ Below w.heap.size w w2 :=
  Open_any (fun _ => true) Two (fun t ht => two_sh true t ht) two_sub arrTy (Or.inr rfl) w D row h
theorem valid_int (w : World) (D : Nat → Prop) (row : Array Value) (h : TyAt w D intTy row) : Calls Tryd.prog 47 #[.agg row] w fun e w2 => e = .returned (.bool true) ∧ Below w.heap.size w w2 :=
  Valid_any (fun _ => true) Two (fun t ht => two_sh false t ht) two_sub intTy (Or.inl rfl) w D row h
theorem built24a (A : Option Addr) (l c : Nat) : Tryd.prog.built 24 [(0, .int .i64 5), (3, .slice A l c)] = some (cell4 5 ⟨#[]⟩ 0 A l c) := by kernel_rfl
set_option maxHeartbeats 4000000 in
set_option maxRecDepth 100000 in
theorem awake_any (w : World) : Calls Tryd.prog 19 #[] w fun e w' => e = .returned (.bool true) ∧ Below w.heap.size w w' := by
  have hb := Below.refl w.heap.size w
  go_enter Tryd.func19, Tryd.ntmps19
  go_upto_region 1 with (fail)
  apply wp_region_lit
  refine wl_val rfl (ex_build 24 _ rfl (L := [(0, .int .i64 1)]) rfl (built24k 1)) ?_
  simp only [Zq]
  (with_reducible refine wl_bs rfl ?_); intro W p hbn hlp hp; replace hb := hb.trans (hbn.mono hb.size); clear hbn; simp only [Zq]
  refine wl_val rfl (ex_build 24 _ rfl (L := [(0, .int .i64 5), (3, .slice (some ⟨p, 0, none⟩) 1 1)]) rfl (built24a _ _ _)) ?_
  simp only [Zq]
  have hint : ∀ w', TyAt w' Any intTy (cell4 1 ⟨#[]⟩ 0 none 0 0) := fun w' => TyAt.of (by rfl) (by rfl) (Nat.zero_le _) (TysAt.nil _ _)
  have hT : TysAt W Any [intTy] (some ⟨p, 0, none⟩) 1 1 := ⟨rfl, Nat.le_refl _, by unfold maxLen; omega, fun _ => cell4 1 ⟨#[]⟩ 0 none 0 0, fun i t ht => by
    cases i with
    | zero => exact ⟨p, 0, _, 24, (0, 0), rfl, trivial, hp, by rfl⟩
    | succ i => simp at ht, fun i t ht => by
    cases i with
    | zero => simp at ht; subst ht; exact hint W
    | succ i => simp at ht⟩
  have hA : TyAt W Any arrTy (cell4 5 ⟨#[]⟩ 0 (some ⟨p, 0, none⟩) 1 1) := TyAt.of (by rfl) (by rfl) (Nat.zero_le _) hT
  have HC := Lib.hid (Format_ok textA arrTy W Any _ hA (fun w' D' h => open_arr w' D' _ h) typ_arr (by decide))
  have HI := Lib.hid hint
  clear hint hT hA hp
  (with_reducible refine wl_ck ?_ ?_); exact rfl; intro K hK; go_simp; refine ⟨_, _, ⟨rfl, rfl⟩, hK _ _ ⟨_, HC.out, ?_⟩⟩; clear hK K; rintro e w6 ⟨rfl, hb6⟩; refine ⟨_, rfl, ?_⟩; simp only [Zq]
  replace hb := hb.trans (hb6.mono hb.size); clear hb6
  (with_reducible refine wl_k ?_ ?_); exact rfl; intro K hK; go_simp; refine hK _ ?_; clear hK K
  (with_reducible refine wl_k ?_ ?_); exact rfl; intro K hK; go_simp; refine hK _ ?_; clear hK K
  (with_reducible refine wl_k ?_ ?_); exact rfl; intro K hK; go_simp; refine hK _ ?_; clear hK K
  (with_reducible refine wl_k ?_ ?_); exact rfl; intro K hK; go_simp; refine hK _ ?_; clear hK K
  (with_reducible refine wl_k ?_ ?_); exact rfl; intro K hK; go_simp; refine hK _ ?_; clear hK K
  have HV := Lib.hid (valid_int w6 Any _ (HI.out w6))
  have e1 : (textA arrTy) = [65, 114, 114, 97, 121, 60, 73, 110, 116, 62] := rfl
  rw [e1]
  clear e1 HC HI
  go_upto_region 2 with (fail)
  apply wp_region_lit
  (with_reducible refine wl_k ?_ ?_); exact rfl; intro K hK; go_simp; refine hK _ ?_; clear hK K
  (with_reducible refine wl_k ?_ ?_); exact rfl; intro K hK; go_simp; refine hK _ ?_; clear hK K
  (with_reducible refine wl_k ?_ ?_); exact rfl; intro K hK; go_simp; refine hK _ ?_; clear hK K
  (with_reducible refine wl_k ?_ ?_); exact rfl; intro K hK; go_simp; refine hK _ ?_; clear hK K
  (with_reducible refine wl_k ?_ ?_); exact rfl; intro K hK; go_simp; refine hK _ ?_; clear hK K
  (with_reducible refine wl_k ?_ ?_); exact rfl; intro K hK; go_simp; refine hK _ ?_; clear hK K
  (with_reducible refine wl_k ?_ ?_); exact rfl; intro K hK; go_simp; refine hK _ ?_; clear hK K
  refine wl_k rfl (fun K hK => ⟨_, ex_build 24 _ rfl (L := [(0, .int .i64 1)]) rfl (built24k 1), hK _ ?_⟩); clear hK K
  simp only [Zq]
  (with_reducible refine wl_ck ?_ ?_); exact rfl; intro K hK; go_simp; refine ⟨_, _, ⟨rfl, rfl⟩, hK _ _ ⟨_, HV.out, ?_⟩⟩; clear hK K; rintro e w7 ⟨rfl, hb7⟩; refine ⟨_, rfl, ?_⟩; simp only [Zq]
  (with_reducible refine wl_k ?_ ?_); exact rfl; intro K hK; go_simp; refine hK _ ?_; clear hK K
  (with_reducible refine wl_k ?_ ?_); exact rfl; intro K hK; go_simp; refine hK _ ?_; clear hK K
  replace hb := hb.trans (hb7.mono hb.size); clear hb7
  clear HV
  go_wp2_with fail
  go_ret
  exact ⟨rfl, hb⟩
end Go.Proofs.YtokmaehefenpmaaDoor
