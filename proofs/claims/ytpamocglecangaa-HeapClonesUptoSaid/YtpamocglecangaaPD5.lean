/- The topmost level under way: what a walk through it carries; backwards there; a text asked of the map of deinits. What is left to be ended falls with each task: plainly. What loads see of a task's variable; buffers without elements and objects with new fields while the topmost level is worked on. A value copied (CopyValue, CopyValues). The document's heap in memory; has, Of. The document's heap in memory: what it is, and when it stands. -/
import Derived.Test.YtpamocglecangaaPD4
import Derived.Test.YtpamocglecangaaPD1
import Derived.Test.YtpamocglecangaaPD3
import Derived.Test.YtpamocglecangaaPD2
set_option maxHeartbeats 16000000
set_option maxRecDepth 100000
namespace Go.Proofs.Ytpamocglecangaa
open Go.RowKit Go.Proofs.Ytpamocglecangaa.Nm
theorem ba_beq (a b : ByteArray) : (a == b) = decide (a = b) := by
 cases a with | mk a => cases b with | mk b =>
 show (a == b) = _
 by_cases h : a = b
 ·subst h; simp
 ·simp [h]
theorem dei_in {s : ByteArray} : ∀ {l : List ByteArray}, s ∈ l -> l.contains s = true
 | a :: l, h => by
  rw [List.contains_cons, ba_beq]
  rcases List.mem_cons.1 h with h | h
  ·simp [h]
  ·rw [dei_in h]; simp
theorem dei_out {s : ByteArray} : ∀ {l : List ByteArray}, s ∉ l -> l.contains s = false
 | [], _ => rfl
 | a :: l, h => by
  rw [List.contains_cons, ba_beq, dei_out fun h2 => h (by simp [h2])]
  simp
  exact fun e => h (by simp [e])
theorem zero4 (w : World) : (zeroValue 4).run Try.prog w = .ok (.bool false) w := by kernel_rfl
theorem run_look84 {w : World} {m : Nat} {dei : List ByteArray} (h : DeiAt w m dei) (s : ByteArray) : (Instr.lookup 84 (.map (some m)) (.string s) false).run Try.prog w = .ok (.bool (dei.contains s)) w := by
 obtain ⟨es, c, hb, hf⟩ := h.find
 unfold Instr.lookup
 have hz := zero4 w
 by_cases hs : s ∈ dei
 ·obtain ⟨j, e, h1, h2, h3⟩ := (hf s).1 hs
  have hc := dei_in hs
  simp [Sem.run_bind, run_underlying u84, Result.andThen, MapKept.run_getObj_map hb, MapKept.run_checkKey u9 (k := .string s) (by simp [MapKept.IsKey]) _ 9999, MapKept.run_findKey u9 h1, hc]
 ·obtain ⟨h1, h2⟩ := (hf s).2 hs
  have hc := dei_out hs
  simp [Sem.run_bind, run_underlying u84, Result.andThen, MapKept.run_getObj_map hb, MapKept.run_checkKey u9 (k := .string s) (by simp [MapKept.IsKey]) _ 9999, MapKept.run_findKey u9 h1, hz, hc]
theorem ex_look84 {ev : Operand -> Value} {o : Oper} {w : World} (x y : Operand) (ho : o.op = .lookup 84 x y false) {m : Nat} {dei : List ByteArray} {s : ByteArray} (hx : ev x = .map (some m)) (hy : ev y = .string s) (h : DeiAt w m dei) :
  (execOp ev o).run Try.prog w = .ok (.value (.bool (dei.contains s))) w := by
 unfold execOp
 simp only [ho, hx, hy, run_look84 h s, Sem.run_bind, Sem.run_pure, Result.andThen_ok]
def TopAt (w : World) (G : Gh) (k p : Nat) (h : Hp) (last : Array Value) : Prop := ∃ oA oc bA bc m lA lc, HTop w G k p h last oA oc bA bc m lA lc
structure TopD (w0 : World) (G0 : Gh) (k p : Nat) (h : Hp) (last : Array Value) (ts : List Tk) (A : Option Addr) (c : Nat) (w : World) (G : Gh) : Prop where
 heap : TopAt w G k p h last
 tks : TksAt w G (k, .lvl h.lev.length) ts A c
 fr : Fr w G
 old : ∀ b, b < w0.heap.size -> G b = G0 b
 new : ∀ b, w0.heap.size <= b -> G b = none ∨ ∃ r, G b = some (k, r)
 keep : Keep (Mine G0 k) w0 w
section
variable {w0 w w' : World} {G0 G G' : Gh} {k p : Nat} {h h' : Hp} {last : Array Value} {ts : List Tk} {A : Option Addr} {c : Nat}
theorem TksAt.old {r : Nat × Role} (h : TksAt w G r ts A c) (hb : Below w.heap.size w w') : TksAt w' G r ts A c := h.same (fun b hl _ => hb.block b hl) fun b hl _ => hb.block b hl
theorem TopD.quiet (d : TopD w0 G0 k p h last ts A c w G) (hb : Below w.heap.size w w') : TopD w0 G0 k p h last ts A c w' G where
 heap := by obtain ⟨oA, oc, bA, bc, m, lA, lc, hh⟩ := d.heap; exact ⟨_, _, _, _, _, _, _, hh.old hb⟩
 tks := d.tks.old hb
 fr := d.fr.on hb.size
 old := d.old
 new := d.new
 keep := d.keep.trans (C' := fun _ => False) (fun b e => e.elim) (Keep.of hb)
theorem TopD.mine (d : TopD w0 G0 k p h last ts A c w G) {b : Nat} (hm : Mine G k b) : Mine G0 k b ∨ w0.heap.size <= b := by
 by_cases e : b < w0.heap.size
 ·unfold Mine at hm; rw [d.old b e] at hm; exact .inl hm
 ·exact .inr (by omega)
theorem TopD.put (d : TopD w0 G0 k p h last ts A c w G) {r : Nat} (hr : G r = some (k, .tmp)) (hr2 : w0.heap.size <= r) (hk : Keep (fun b => b = r) w w') : TopD w0 G0 k p h last ts A c w' G where
 heap := by
  obtain ⟨oA, oc, bA, bc, m, lA, lc, hh⟩ := d.heap
  exact ⟨_, _, _, _, _, _, _, hh.keep hk fun b e => by subst e; exact ⟨.inl (by rintro ⟨x, e2, h3⟩; rw [hr] at e2; cases e2; exact h3 rfl), by rw [hr]; simp⟩⟩
 tks := d.tks.same (fun b hb e => hk.block b hb fun e2 => by rw [e2, hr] at e; cases e) fun b hb e => hk.block b hb fun e2 => by rw [e2, hr] at e; cases e
 fr := d.fr.on hk.size
 old := d.old
 new := d.new
 keep := d.keep.trans (C' := fun b => b = r) (fun b e => .inr (by omega)) hk
theorem TopD.step (d : TopD w0 G0 k p h last ts A c w G) {g : Nat} {r : Role} (hg : G g = some (k, r)) (h1 : r ≠ .tmp) (h2 : ∀ i, r ≠ .lvl i) (hl : h'.lev = h.lev) (hk : Keep (fun b => b = g) w w') (hh : TopAt w' G k p h' last) : TopD w0 G0 k p h' last ts A c w' G where
 heap := hh
 tks := by
  rw [hl]
  exact d.tks.same (fun b hb e => hk.block b hb fun e2 => by rw [e2, hg] at e; cases e; exact h2 _ rfl) fun b hb e => hk.block b hb fun e2 => by rw [e2, hg] at e; cases e
 fr := d.fr.on hk.size
 old := d.old
 new := d.new
 keep := d.keep.trans (C' := fun b => b = g) (fun b e => d.mine ⟨r, by rw [e]; exact hg, h1⟩) hk
theorem TopD.push (d : TopD w0 G0 k p h last ts A c w G) {A' : Option Addr} {c' : Nat} {ts' : List Tk} {rows : List (Array Value)} (hk : Keep (fun b => A = some ⟨b, 0, none⟩) w w') (hA : A' = A ∨ ∃ g, A' = some ⟨g, 0, none⟩ /\ w.heap.size <= g) (ho : OwnL w' 101 12 A' c' rows) (hl : rows.length = ts'.length)
  (hv : ∀ (j : Nat) (t : Tk) (row : Array Value), ts'[j]? = some t -> rows[j]? = some row -> TkAt w' (own G A' (k, .lvl h.lev.length)) t row) : TopD w0 G0 k p h last ts' A' c' w' (own G A' (k, .lvl h.lev.length)) /\ ∀ b, b < w.heap.size -> own G A' (k, .lvl h.lev.length) b = G b := by
 obtain ⟨rows0, ho0, hl0, hr0, hv0⟩ := d.tks
 have hG := own_again hr0 hA
 have hlt : ∀ b, A' = some ⟨b, 0, none⟩ -> b < w'.heap.size := fun b e => by obtain ⟨cur, hc⟩ := ho.is_cells e; exact heap_lt hc
 have hsz := d.keep.size
 refine ⟨⟨?_, ⟨rows, ho, hl, own_role _ _ _, hv⟩, fun b hb => ?_, fun b hb => ?_, fun b hb => ?_, ?_⟩, hG⟩
 ·obtain ⟨oA, oc, bA, bc, m, lA, lc, hh⟩ := d.heap
  have hlt0 : ∀ b, A = some ⟨b, 0, none⟩ -> b < w.heap.size := fun b e => by obtain ⟨cur, hc⟩ := ho0.is_cells e; exact heap_lt hc
  exact ⟨_, _, _, _, _, _, _, (hh.regh hG).keep hk fun b e => by rw [hG b (hlt0 b e), hr0 b e]; exact ⟨.inr rfl, by simp⟩⟩
 ·unfold own
  rw [if_neg (fun e => by have := hlt b e; omega)]
  exact d.fr b (by have := hk.size; omega)
 ·rw [hG b (by omega)]; exact d.old b hb
 ·unfold own
  split
  ·exact .inr ⟨_, rfl⟩
  ·exact d.new b hb
 ·exact d.keep.trans (C' := fun b => A = some ⟨b, 0, none⟩) (fun b e => d.mine ⟨_, hr0 b e, by simp⟩) hk
def Vsr (w : World) (G : Gh) (r : Nat × Role) (vs : List Va) (vA : Option Addr) : Prop := ∃ rv : Nat -> Array Value, ∀ (i : Nat) (v : Va), vs[i]? = some v -> VAt w (Imm G) v (rv i) /\ ∃ b off, vA = some ⟨b, off, none⟩ /\ b < w.heap.size /\ G b ≠ some r /\ ∀ W', W'.heap[b]? = w.heap[b]? -> RowAt W' 35 ⟨b, off + i * 9, none⟩ (rv i)
theorem VsAt.vsr {vs : List Va} {vA : Option Addr} {n vc : Nat} (h : VsAt w (Imm G) vs vA n vc) (r : Nat × Role) : Vsr w G r vs vA := by
 obtain ⟨h1, h2, h3, rows, h4, h5⟩ := h
 refine ⟨rows, fun i v hi => ⟨h5 i v hi, ?_⟩⟩
 obtain ⟨b, off, Cs, t, fr, e1, e2, e3, e4⟩ := h4 i v hi
 exact ⟨b, off, e1, heap_lt e3, by unfold Imm at e2; rw [e2]; simp, fun W' hw => row_mid (n := 9) (hw.trans e3) e4 u35 rfl (h5 i v hi).size info35⟩
theorem ListV.vsr {vs : List Va} {vA : Option Addr} {vc : Nat} {r' : Nat × Role} (h : ListV w G r' vs vA vc) {r : Nat × Role} (hr : r' ≠ r) : Vsr w G r vs vA := by
 obtain ⟨rows, ho, hl, hro, hv⟩ := h
 refine ⟨fun i => rows[i]?.getD #[], fun i v hi => ?_⟩
 have hil := (List.getElem?_eq_some_iff.1 hi).1
 have hri : rows[i]? = some (rows[i]'(by omega)) := List.getElem?_eq_getElem _
 have hva := hv i v _ hi hri
 simp only [hri, Option.getD_some]
 refine ⟨hva, ?_⟩
 obtain ⟨g, cur, e, -⟩ := ho.addr (i := i) (by omega)
 subst e
 obtain ⟨cur, hg, -, -, hx, -⟩ := ho.at hri
 exact ⟨g, 0, rfl, heap_lt hg, by rw [hro g rfl]; intro e; cases e; exact hr rfl, fun W' hw => by
  rw [Nat.zero_add]
  exact row_mid (n := 9) (hw.trans hg) hx u35 rfl hva.size info35⟩
theorem downN_get {n j : Nat} (h : j < n) : (downN n n)[j]? = some (n - 1 - j) := by
 unfold downN
 rw [List.getElem?_map, List.getElem?_range h]
 rfl
theorem laterV_get {vs : List Va} {j : Nat} (h : j < vs.length) : (laterV vs)[j]? = (vs[vs.length - 1 - j]?).map .val := by
 unfold laterV
 rw [List.getElem?_map, List.getElem?_reverse h]
theorem laterV_len (vs : List Va) : (laterV vs).length = vs.length := by simp [laterV]
theorem back_top (d : TopD w0 G0 k p h last ts A c w G) {vs : List Va} {vA : Option Addr} {vc : Nat} (hv : Vsr w G (k, .lvl h.lev.length) vs vA) (hroom : ts.length + vs.length <= 800000000000) :
  Calls Try.prog 104 #[.slice A ts.length c, .slice vA vs.length vc] w fun e w' => ∃ A' c' G', e = .returned (.slice A' (ts ++ laterV vs).length c') /\ TopD w0 G0 k p h last (ts ++ laterV vs) A' c' w' G' /\ (∀ b, b < w.heap.size -> G' b = G b) /\ Keep (fun b => A = some ⟨b, 0, none⟩) w w' /\ ∀ b, A = some ⟨b, 0, none⟩ -> G b = some (k, .lvl h.lev.length) := by
 obtain ⟨rows, ho, hl, hr, hvr⟩ := d.tks
 obtain ⟨rv, hrv⟩ := hv
 have hrv2 : ∀ i, ((fun i => if i < vs.length then rv i else zrow) i).size = 9 /\ ((fun i => if i < vs.length then rv i else zrow) i).all (·.oneCell') = true := fun i => by
  by_cases e : i < vs.length
  ·simp only [if_pos e]
   obtain ⟨h1, -⟩ := hrv i _ (List.getElem?_eq_getElem e)
   exact ⟨h1.size, h1.one⟩
  ·simp only [if_neg e]
   exact ⟨rfl, (zero_va w (Imm G)).one⟩
 have hc := back_raw ho (vA := vA) (n := vs.length) (vc := vc) (fun i => if i < vs.length then rv i else zrow) (by unfold maxLen; omega) hrv2 (fun i hi => by
  obtain ⟨h1, b, off, e1, e2, e3, e4⟩ := hrv i _ (List.getElem?_eq_getElem hi)
  exact ⟨b, off, e1, e2, fun e => e3 (hr b e), fun W' hw => by simp only [if_pos hi]; exact e4 W' hw⟩) (by omega)
 rw [hl] at hc
 refine hc.mono ?_
 rintro e w' ⟨A', c', rfl, ho', hA', hk⟩
 have hG := own_again hr hA'
 have hlt0 : ∀ b, A = some ⟨b, 0, none⟩ -> b < w.heap.size := fun b e => by obtain ⟨cur, hc⟩ := ho.is_cells e; exact heap_lt hc
 have mv : ∀ {v : Va} {row : Array Value}, VAt w (Imm G) v row -> VAt w' (Imm (own G A' (k, .lvl h.lev.length))) v row := fun hv => hv.moved hk (fun b e => by rw [hr b e]; simp) hG
 obtain ⟨hd, hG2⟩ := d.push (ts' := ts ++ laterV vs) hk hA' ho' (by simp [hl, downN_len, laterV_len]) (fun j t row hj hrow => by
  by_cases e : j < ts.length
  ·rw [List.getElem?_append_left e] at hj
   rw [List.getElem?_append_left (by omega)] at hrow
   have h1 := hvr j t row hj hrow
   cases t with
   | val v => obtain ⟨rv0, h2, h3⟩ := h1; exact ⟨rv0, mv h2, h3⟩
   | flds o i => obtain ⟨rv0, v, h2, h3⟩ := h1; exact ⟨rv0, v, mv h2, h3⟩
  ·rw [List.getElem?_append_right (by omega)] at hj
   rw [List.getElem?_append_right (by omega), hl] at hrow
   have hjl := (List.getElem?_eq_some_iff.1 hj).1
   rw [laterV_len] at hjl
   rw [laterV_get hjl] at hj
   rw [List.getElem?_map, downN_get hjl] at hrow
   have hlt : vs.length - 1 - (j - ts.length) < vs.length := by omega
   rw [List.getElem?_eq_getElem hlt] at hj
   cases hj; cases hrow
   simp only [if_pos hlt]
   exact ⟨_, mv (hrv _ _ (List.getElem?_eq_getElem hlt)).1, rfl⟩)
 exact ⟨A', c', _, by rw [List.length_append, laterV_len], hd, hG2, hk, hr⟩
end
end Go.Proofs.Ytpamocglecangaa
namespace Go.Proofs.Ytpamocglecangaa
mutual
def wV : Va -> Nat
 | .node _ _ _ _ _ l => 1 + wVs l
def wVs : List Va -> Nat
 | [] => 0
 | v :: l => wV v + wVs l
end
theorem wV_eq (v : Va) : wV v = 1 + wVs v.parts := by cases v; rw [wV]; rfl
theorem wV_pos (v : Va) : 1 <= wV v := by rw [wV_eq]; omega
theorem wVs_len : ∀ l : List Va, l.length <= wVs l
 | [] => Nat.zero_le _
 | v :: l => by
  have := wVs_len l
  have := wV_pos v
  rw [wVs, List.length_cons]; omega
theorem wVs_drop {l : List Va} {i : Nat} {v : Va} (h : l[i]? = some v) : wVs (l.drop i) = wV v + wVs (l.drop (i + 1)) := by
 obtain ⟨h1, e⟩ := List.getElem?_eq_some_iff.1 h
 rw [List.drop_eq_getElem_cons h1, e, wVs]
theorem wVs_rep (n : Nat) : wVs (List.replicate n va0) = n := by
 induction n with
 | zero => rfl
 | succ n ih =>
  have h0 : wV va0 = 1 := by rw [wV_eq]; rfl
  rw [List.replicate_succ, wVs, ih, h0]; omega
def wO (o : Ob) : Nat := if o.state = 1 then 2 + o.fields.length + wVs o.fields else 0
def wT (h : Hp) : Tk -> Nat
 | .val v => wV v
 | .flds o i => match h.obs[o]? with
  | some ob => 1 + (ob.fields.drop i).length + wVs (ob.fields.drop i)
  | none => 1
def sumN : List Nat -> Nat
 | [] => 0
 | n :: l => n + sumN l
theorem sumN_cat : ∀ l m : List Nat, sumN (l ++ m) = sumN l + sumN m
 | [], m => by simp [sumN]
 | n :: l, m => by simp only [List.cons_append, sumN, sumN_cat l m]; omega
theorem sumN_le {α : Type} {f g : α -> Nat} : ∀ {l : List α}, (∀ x, x ∈ l -> f x <= g x) -> sumN (l.map f) <= sumN (l.map g)
 | [], _ => Nat.le_refl _
 | a :: l, h => by
  have h1 := h a (by simp)
  have h2 := sumN_le (l := l) fun x hx => h x (by simp [hx])
  simp only [List.map_cons, sumN]; omega
theorem sumN_mod {α : Type} {f : α -> Nat} {g : α -> α} : ∀ {l : List α} {i : Nat} {x : α}, l[i]? = some x -> sumN ((l.modify i g).map f) + f x = sumN (l.map f) + f (g x)
 | [], i, x, h => by simp at h
 | a :: l, 0, x, h => by
  simp at h; subst h
  simp only [List.modify_zero_cons, List.map_cons, sumN]; omega
 | a :: l, i + 1, x, h => by
  have := sumN_mod (f := f) (g := g) (l := l) (i := i) (x := x) (by simpa using h)
  simp only [List.modify_succ_cons, List.map_cons, sumN]; omega
def weight (h : Hp) (l : List Tk) : Nat := sumN (l.map (wT h)) + sumN (h.obs.map wO) + sumN (h.bus.map fun b => wVs b.elems)
theorem wT_pos (h : Hp) (t : Tk) : 1 <= wT h t := by
 cases t with
 | val v => exact wV_pos v
 | flds o i =>
  simp only [wT]
  split <;> omega
theorem sum_later (h : Hp) (l : List Va) : sumN ((laterV l).map (wT h)) = wVs l := by
 have hrev : ∀ l : List Nat, sumN l.reverse = sumN l := by
  intro l
  induction l with
  | nil => rfl
  | cons n l ih => rw [List.reverse_cons, sumN_cat, ih]; simp only [sumN]; omega
 have hm : ∀ l : List Va, sumN (l.map (wT h ∘ Tk.val)) = wVs l := by
  intro l
  induction l with
  | nil => rfl
  | cons v l ih => simp only [List.map_cons, sumN, ih, wVs, Function.comp, wT]
 unfold laterV
 rw [List.map_map, List.map_reverse, hrev, hm]
theorem wT_le {h : Hp} {obs : List Ob} (hl : obs.length = h.obs.length) (hf : ∀ (i : Nat) (o o' : Ob), h.obs[i]? = some o -> obs[i]? = some o' -> o'.fields.length = o.fields.length /\ ∀ j, wVs (o'.fields.drop j) <= wVs (o.fields.drop j)) (t : Tk) : wT { h with obs := obs } t <= wT h t := by
 cases t with
 | val v => exact Nat.le_refl _
 | flds o i =>
  simp only [wT]
  cases h1 : h.obs[o]? with
  | none =>
   have : obs[o]? = none := by
    rw [List.getElem?_eq_none_iff] at h1 ⊢; omega
   simp only [this]; exact Nat.le_refl _
  | some ob =>
   have h2 : o < obs.length := by have := (List.getElem?_eq_some_iff.1 h1).1; omega
   simp only [List.getElem?_eq_getElem h2]
   obtain ⟨e1, e2⟩ := hf o ob _ h1 (List.getElem?_eq_getElem h2)
   have := e2 i
   simp only [List.length_drop, e1]
   omega
theorem mod_get {α : Type} {l : List α} {n i : Nat} {f : α -> α} {a b : α} (h1 : l[i]? = some a) (h2 : (l.modify n f)[i]? = some b) : (i = n /\ b = f a) ∨ (i ≠ n /\ b = a) := by
 rw [List.getElem?_modify, h1] at h2
 by_cases e : n = i
 ·simp [e] at h2
  exact .inl ⟨e.symm, h2.symm⟩
 ·simp [e] at h2
  exact .inr ⟨fun e2 => e e2.symm, h2.symm⟩
theorem weight_obs {h : Hp} {l l' : List Tk} {n : Nat} {o : Ob} {f : Ob -> Ob} (ho : h.obs[n]? = some o) (hlen : (f o).fields.length = o.fields.length) (hw : ∀ j, wVs ((f o).fields.drop j) <= wVs (o.fields.drop j)) {t : Tk} (hd : sumN (l'.map (wT { h with obs := h.obs.modify n f })) + wO (f o) < wT h t + wO o + sumN (l.map (wT { h with obs := h.obs.modify n f }))) : weight { h with obs := h.obs.modify n f } l' < weight h (l ++ [t]) := by
 have h1 := sumN_mod (f := wO) (g := f) ho
 have h2 : sumN (l.map (wT { h with obs := h.obs.modify n f })) <= sumN (l.map (wT h)) := sumN_le fun x _ => wT_le (by simp) (fun i a b e1 e2 => by
  rcases mod_get e1 e2 with ⟨rfl, rfl⟩ | ⟨_, rfl⟩
  ·rw [ho] at e1; cases e1; exact ⟨hlen, hw⟩
  ·exact ⟨rfl, fun _ => Nat.le_refl _⟩) x
 unfold weight
 rw [List.map_append, sumN_cat]
 simp only [List.map_cons, List.map_nil, sumN]
 show _ + sumN ((h.obs.modify n f).map wO) + _ < _
 omega
theorem weight_pop {h : Hp} {l : List Tk} {t : Tk} : weight h l < weight h (l ++ [t]) := by
 have := wT_pos h t
 unfold weight
 rw [List.map_append, sumN_cat]
 simp only [List.map_cons, List.map_nil, sumN]
 omega
theorem step_falls (h : Hp) (l : List Tk) (t : Tk) : weight (stepV' h l t).1 (stepV' h l t).2.1 < weight h (l ++ [t]) := by
 cases t with
 | flds o i =>
  cases ho : h.obs[o]? with
  | none =>
   simp only [stepV', ho]
   exact weight_pop
  | some ob =>
   cases hf : ob.fields[i]? with
   | some v =>
    simp only [stepV', ho, hf]
    have h1 := wVs_drop hf
    have hil := (List.getElem?_eq_some_iff.1 hf).1
    unfold weight
    rw [List.map_append, List.map_append, sumN_cat, sumN_cat]
    simp only [List.map_cons, List.map_nil, sumN, wT, ho, List.length_drop]
    omega
   | none =>
    simp only [stepV', ho, hf]
    refine weight_obs (f := fun ob => { ob with fields := List.replicate ob.fields.length va0, state := 3 }) ho (by simp) (fun j => ?_) ?_
    ·simp only [List.drop_replicate, wVs_rep]
     have := wVs_len (ob.fields.drop j)
     rwa [List.length_drop] at this
    ·have := wT_pos h (.flds o i)
     simp only [wO]
     simp
     omega
 | val v =>
  have hp := wV_pos v
  have hpop : weight h l < weight h (l ++ [.val v]) := weight_pop
  have hl : weight h (l ++ laterV v.parts) < weight h (l ++ [.val v]) := by
   have := wV_eq v
   unfold weight
   simp only [List.map_append, sumN_cat, List.map_cons, List.map_nil, sumN, sum_later, wT]
   omega
  by_cases c7 : v.kind = 7
  ·cases ho : h.obs[v.num.toNat]? with
   | none => simp only [stepV', c7, if_true, ho]; exact hpop
   | some ob =>
    by_cases hc : w64 (ob.count + -1) ≠ 0 ∨ ob.state ≠ 1
    ·simp only [stepV', c7, if_true, ho, if_pos hc]
     exact weight_obs (f := addC (-1)) ho rfl (fun _ => Nat.le_refl _) (by rw [show wO (addC (-1) ob) = wO ob from rfl]; simp only [wT]; omega)
    ·have hs : ob.state = 1 := Classical.not_not.1 fun e => hc (.inr e)
     simp only [stepV', c7, if_true, ho, if_neg hc]
     refine weight_obs (f := fun ob => { addC (-1) ob with state := 2 }) ho rfl (fun _ => Nat.le_refl _) ?_
     rw [List.map_append, sumN_cat]
     simp only [List.map_cons, List.map_nil, sumN, wT, wO, addC, hs, List.drop_zero, if_true]
     simp [ho]
     omega
  ·by_cases c11 : v.kind = 11
   ·simp only [stepV', if_neg c7, if_pos c11]
    cases ho : h.obs[v.num.toNat]? with
    | none =>
     have : h.obs.modify v.num.toNat (addW (-1)) = h.obs := by
      apply List.ext_getElem?
      intro j
      rw [List.getElem?_modify]
      by_cases e : v.num.toNat = j
      ·rw [<- e, ho]; rfl
      ·simp [e]
     rw [this]; exact hpop
    | some ob => exact weight_obs (f := addW (-1)) ho rfl (fun _ => Nat.le_refl _) (by rw [show wO (addW (-1) ob) = wO ob from rfl]; simp only [wT]; omega)
   ·by_cases c8 : v.kind = 8
    ·cases hb : h.bus[v.num.toNat]? with
     | none => simp only [stepV', if_neg c7, if_neg c11, if_pos c8, hb]; exact hpop
     | some b =>
      by_cases hc : w64 (b.count + -1) = 0
      ·simp only [stepV', if_neg c7, if_neg c11, if_pos c8, hb, if_pos hc]
       have h1 := sumN_mod (f := fun b : Bu => wVs b.elems) (g := fun b => { addB (-1) b with elems := [] }) hb
       have h2 : wT { h with bus := h.bus.modify v.num.toNat fun b => { addB (-1) b with elems := [] } } = wT h := funext fun t => by cases t <;> rfl
       unfold weight
       simp only [List.map_append, sumN_cat, List.map_cons, List.map_nil, sumN, sum_later, h2]
       simp only [addB, wVs, wT] at h1 ⊢
       omega
      ·simp only [stepV', if_neg c7, if_neg c11, if_pos c8, hb, if_neg hc]
       have h1 := sumN_mod (f := fun b : Bu => wVs b.elems) (g := addB (-1)) hb
       have h2 : wT { h with bus := h.bus.modify v.num.toNat (addB (-1)) } = wT h := funext fun t => by cases t <;> rfl
       unfold weight
       simp only [List.map_append, sumN_cat, List.map_cons, List.map_nil, sumN, h2]
       simp only [addB, wT] at h1 ⊢
       omega
    ·by_cases c5 : v.kind = 5
     ·simp only [stepV', if_neg c7, if_neg c11, if_neg c8, if_pos c5]; exact hl
     ·by_cases ck : hasK v.kind = true
      ·simp only [stepV', if_neg c7, if_neg c11, if_neg c8, if_neg c5, if_pos ck]; exact hl
      ·simp only [stepV', if_neg c7, if_neg c11, if_neg c8, if_neg c5, if_neg ck]; exact hpop
open Go.RowKit Go.Proofs.Ytpamocglecangaa.Nm
theorem info33e : (Try.prog.info? 33).map (·.size) = some 1 := by kernel_rfl
theorem VRow.at4 {w : World} {D : Nat -> Prop} {v : Va} {row tr : Array Value} {A2 : Option Addr} {l2 c2 : Nat} {A3 : Option Addr} {l3 c3 : Nat} (h : VRow w D v row tr A2 l2 c2 A3 l3 c3) : row[4]? = some (.string v.typ.name) := by
 obtain ⟨tk, ts, tn, tA, tl, tc, tt, e1, e2, -⟩ := h.ty.parts
 rw [h.eq, e2, e1]; rfl
section
variable {w w' : World} {D : Nat -> Prop} {v : Va} {row tr x : Array Value} {A2 : Option Addr} {l2 c2 : Nat} {A3 : Option Addr} {l3 c3 : Nat} {q : Nat} {t : TypeId} {fr : Nat × Nat}
theorem tcell (hq : w.heap[q]? = some (.cells (row ++ x) t fr)) (hs : row.size = 9) {i : Nat} (hi : i < 9) : w.cell? ⟨q, i, none⟩ = row[i]? := by rw [cell_of_row _ _ _ _ _ _ hq, Array.getElem?_append_left (by omega)]
theorem tkK {k : Int} (hq : w.heap[q]? = some (.cells (row ++ x) t fr)) (h : Hid (VRow w' D v row tr A2 l2 c2 A3 l3 c3)) (hk : Hid (v.kind = k)) : OneAt w 3 ⟨q, 0, none⟩ (.int .i64 k) := by
 rw [<- hk.out]; exact one_of u3 rfl (by rw [tcell hq h.out.size (by omega)]; exact h.out.at0)
theorem tkN {n : Nat} (hq : w.heap[q]? = some (.cells (row ++ x) t fr)) (h : Hid (VRow w' D v row tr A2 l2 c2 A3 l3 c3)) (hn : Hid (v.num = (n : Int))) : OneAt w 3 ⟨q, 1, none⟩ (.int .i64 (n : Int)) := by
 rw [<- hn.out]; exact one_of u3 rfl (by rw [tcell hq h.out.size (by omega)]; exact h.out.at1)
theorem tkS (hq : w.heap[q]? = some (.cells (row ++ x) t fr)) (h : Hid (VRow w' D v row tr A2 l2 c2 A3 l3 c3)) : OneAt w 9 ⟨q, 4, none⟩ (.string v.typ.name) := one_of u9 rfl (by rw [tcell hq h.out.size (by omega)]; exact h.out.at4)
theorem tkL (hq : w.heap[q]? = some (.cells (row ++ x) t fr)) (h : Hid (VRow w' D v row tr A2 l2 c2 A3 l3 c3)) : OneAt w 33 ⟨q, 8, none⟩ (.slice A3 l3 c3) := one_of u33 rfl (by rw [tcell hq h.out.size (by omega)]; exact h.out.at8)
theorem tkRow35 (hq : w.heap[q]? = some (.cells (row ++ x) t fr)) (hs : row.size = 9) : RowAt w 35 ⟨q, 0, none⟩ row := row_mid (n := 9) hq (by
 apply Array.ext_getElem?
 intro i
 rw [Array.getElem?_extract]
 by_cases hi : i < 9
 ·rw [if_pos (by simp; omega), Array.getElem?_append_left (by omega), Nat.zero_add]
 ·rw [if_neg (by simp; omega), Array.getElem?_eq_none (by omega)]) u35 rfl hs info35
theorem tkI {a b e : Int} (hq : w.heap[q]? = some (.cells (row ++ #[.int .i64 a, .int .i64 b, .int .i64 e]) t fr)) (hs : row.size = 9) : OneAt w 3 ⟨q, 9, none⟩ (.int .i64 a) /\ OneAt w 3 ⟨q, 10, none⟩ (.int .i64 b) /\ OneAt w 3 ⟨q, 11, none⟩ (.int .i64 e) :=
 ⟨one_of u3 rfl (by rw [cell_of_row _ _ _ _ _ _ hq, Array.getElem?_append_right (by omega), hs]; rfl), one_of u3 rfl (by rw [cell_of_row _ _ _ _ _ _ hq, Array.getElem?_append_right (by omega), hs]; rfl), one_of u3 rfl (by rw [cell_of_row _ _ _ _ _ _ hq, Array.getElem?_append_right (by omega), hs]; rfl)⟩
theorem putN_task {row' : Array Value} (h1 : row.size = 9) (h2 : row'.size = 9) : putN (row ++ x) 0 row' = row' ++ x := by
 apply Array.ext'
 simp only [putN, List.take_zero, List.nil_append, Nat.zero_add, Array.toList_append]
 rw [List.drop_append_of_le_length (by simp; omega), List.drop_of_length_le (by simp; omega), List.nil_append]
end
section
variable {w w' : World} {G : Gh} {k p : Nat} {h : Hp} {last : Array Value} {oA : Option Addr} {oc : Nat} {bA : Option Addr} {bc m : Nat} {lA : Option Addr} {lc : Nat}
theorem HTop.nilE {g i : Nat} (hh : HTop w G k p h last oA oc (some ⟨g, 0, none⟩) bc m lA lc) {b : Bu} (hi : h.bus[i]? = some b) : (w.cell? ⟨g, i * 2 + 1, none⟩).isSome = true /\ w.frozen? ⟨g, i * 2 + 1, none⟩ = false /\
  HTop (w.setCell ⟨g, i * 2 + 1, none⟩ (.slice none 0 0)) G k p { h with bus := h.bus.set i { b with elems := [] } } last oA oc (some ⟨g, 0, none⟩) bc m lA lc := by
 obtain ⟨g', rows, e, hR⟩ := hh.bus.rows hi
 cases e
 obtain ⟨row, fA, fc, hr, hx⟩ := hR.get hi
 obtain ⟨h1, h2⟩ := hR.own.lies hr (j := 1) (by omega)
 refine ⟨h1, h2, ?_⟩
 have hs1 := (Keep.cellOne w g (i * 2 + 1) (.slice none 0 0)).block
 have hne : ∀ b r, G b = some (k, r) -> r ≠ .bar -> b ≠ g := fun b r e hr e2 => by rw [e2, hR.role] at e; cases e; exact hr rfl
 have hno : ∀ b, G b = none -> b ≠ g := fun b e e2 => by rw [e2, hR.role] at e; cases e
 refine hh.busC (by simp) (fun b hb e => hs1 b hb fun e2 => ?_) (fun b hb e => hs1 b hb (hno b e)) ?_
 ·obtain ⟨r, e3, e4, -⟩ := e
  exact hne b r e3 e4 e2
 ·refine hR.upd hi (row' := row.setIfInBounds 1 (.slice none 0 0)) (eA' := none) (ec' := 0) (fun j b _ hb e => hs1 b hb (hne b _ e (by simp))) (fun b hb e => hs1 b hb (hno b e)) (hR.own.set hr (j := 1) (by omega) _) ⟨?_, [], OwnL.nil _ _ _, rfl, fun g e => (by cases e), fun j v row hj => (by simp at hj)⟩
  rw [hx.eq]; rfl
theorem HTop.newF {g i : Nat} (hh : HTop w G k p h last (some ⟨g, 0, none⟩) oc bA bc m lA lc) {o : Ob} (hi : h.obs[i]? = some o) {l : List Va} {A' : Option Addr} {c' : Nat} (hL : ListV w G (k, .fld i) l A' c') : (w.cell? ⟨g, i * 8 + 7, none⟩).isSome = true /\ w.frozen? ⟨g, i * 8 + 7, none⟩ = false /\
  HTop (w.setCell ⟨g, i * 8 + 7, none⟩ (.slice A' l.length c')) G k p { h with obs := h.obs.set i { o with fields := l } } last (some ⟨g, 0, none⟩) oc bA bc m lA lc := by
 obtain ⟨g', rows, e, hR⟩ := hh.obs.rows hi
 cases e
 obtain ⟨row, tr, fA, fc, hr, hx⟩ := hR.get hi
 obtain ⟨h1, h2⟩ := hR.own.lies hr (j := 7) (by omega)
 refine ⟨h1, h2, ?_⟩
 have hk := Keep.cellOne w g (i * 8 + 7) (.slice A' l.length c')
 have hs1 := hk.block
 have hne : ∀ b r, G b = some (k, r) -> r ≠ .arr -> b ≠ g := fun b r e hr e2 => by rw [e2, hR.role] at e; cases e; exact hr rfl
 have hno : ∀ b, G b = none -> b ≠ g := fun b e e2 => by rw [e2, hR.role] at e; cases e
 refine hh.obsC (by simp) (fun b hb e => hs1 b hb fun e2 => ?_) (fun b hb e => hs1 b hb (hno b e)) ?_
 ·obtain ⟨r, e3, e4, -⟩ := e
  exact hne b r e3 e4 e2
 ·refine hR.upd hi (row' := row.setIfInBounds 7 (.slice A' l.length c')) (tr' := tr) (fA' := A') (fc' := c') (fun j b _ hb e => hs1 b hb (hne b _ e (by simp))) (fun b hb e => hs1 b hb (hno b e)) (hR.own.set hr (j := 7) (by omega) _) ⟨?_, hx.ty.keep hk (fun b hb e => hno b hb e), hL.same (fun b hb e => hs1 b hb (hne b _ e (by simp))) (fun b hb e => hs1 b hb (hno b e))⟩
  rw [hx.eq, (cell8_set hx.size o.state o.count o.weak fA o.fields.length fc 0 A' l.length c').2.2.2]
theorem HTop.nameK {g i : Nat} (hh : HTop w G k p h last (some ⟨g, 0, none⟩) oc bA bc m lA lc) {o : Ob} (hi : h.obs[i]? = some o) {C : Nat -> Prop} (hk : Keep C w w') (hC : ∀ b, C b -> (¬ Mine G k b ∨ G b = some (k, .lvl h.lev.length)) /\ G b ≠ none) : OneAt w' 9 ⟨g, i * 8 + 1, none⟩ (.string o.t.name) := by
 obtain ⟨g', tr, fA, fc, e, -, hL, -⟩ := (hh.keep hk hC).obj hi
 cases e
 exact (hL _ (Below.refl _ _)).n
end
def EndT (w0 : World) (G0 : Gh) (k p q : Nat) (last x : Array Value) (r : Hp × List Tk × Option Va) (e : Ending) (w' : World) : Prop :=
 ∃ A' c' G' rv', e = .returned (.tuple #[.slice A' r.2.1.length c', .bool r.2.2.isSome]) /\ TopD w0 G0 k p r.1 last r.2.1 A' c' w' G' /\ G' q = some (k, .tmp) /\ w'.heap[q]? = some (.cells (rv' ++ x) 101 (0, 0)) /\ rv'.size = 9 /\ ∀ u, r.2.2 = some u -> VAt w' (Imm G') u rv'
theorem modify_at {α : Type} {l : List α} {i : Nat} {x : α} (f : α -> α) (h : l[i]? = some x) : l.modify i f = l.set i (f x) := modify_eq f h
theorem weight_len {h : Hp} {ts : List Tk} {t : Tk} : ts.length + wT h t <= weight h (ts ++ [t]) := by
 have : ∀ l : List Tk, l.length <= sumN (l.map (wT h)) := by
  intro l
  induction l with
  | nil => exact Nat.zero_le _
  | cons t l ih =>
   have := wT_pos h t
   simp only [List.length_cons, List.map_cons, sumN]; omega
 have h1 := this ts
 unfold weight
 rw [List.map_append, sumN_cat]
 simp only [List.map_cons, List.map_nil, sumN]
 omega
theorem sumN_mem {α : Type} {f : α -> Nat} : ∀ {l : List α} {x : α}, x ∈ l -> f x <= sumN (l.map f)
 | a :: l, x, h => by
  simp only [List.map_cons, sumN]
  rcases List.mem_cons.1 h with rfl | h
  ·omega
  ·have := sumN_mem (f := f) h; omega
theorem weight_bus {h : Hp} {ts : List Tk} {b : Bu} (hb : b ∈ h.bus) : ts.length + b.elems.length <= weight h ts := by
 have h1 : ∀ l : List Tk, l.length <= sumN (l.map (wT h)) := by
  intro l
  induction l with
  | nil => exact Nat.zero_le _
  | cons t l ih =>
   have := wT_pos h t
   simp only [List.length_cons, List.map_cons, sumN]; omega
 have h2 := h1 ts
 have h3 : wVs b.elems <= _ := sumN_mem (f := fun b : Bu => wVs b.elems) hb
 have h4 := wVs_len b.elems
 unfold weight
 omega
open Go.RowKit Go.Proofs.Ytpamocglecangaa.Nm
set_option linter.unusedSimpArgs false
mutual
def nodesF : Va -> Nat
 | .node _ _ _ t ts l => 1 + t.nodes + nodesL ts + nodesFs l
def nodesFs : List Va -> Nat
 | [] => 0
 | v :: l => nodesF v + nodesFs l
end
theorem nodesF_eq (v : Va) : nodesF v = 1 + v.typ.nodes + nodesL v.tys + nodesFs v.parts := by cases v; rw [nodesF]; rfl
theorem nodesF_pos (v : Va) : 1 <= nodesF v := by rw [nodesF_eq]; omega
theorem len_nodesF : ∀ l : List Va, l.length <= nodesFs l
 | [] => Nat.zero_le _
 | v :: l => by
  have := len_nodesF l
  have := nodesF_pos v
  rw [nodesFs, List.length_cons]; omega
theorem mem_nodesF {v : Va} : ∀ {l : List Va}, v ∈ l -> nodesF v <= nodesFs l
 | u :: l, h => by
  rw [nodesFs]
  rcases List.mem_cons.1 h with rfl | h
  ·omega
  ·have := mem_nodesF h; omega
section
variable {ops : Array Oper} {rest : List Oper} {a : Act} {w : World} {Q : Exit -> Act -> World -> Prop} {x y : Operand} {ty' : TypeId} {pos : String} {after : Array Edge} {ty ty2 : TypeId} {p o n : Nat} {cs : Array Value}
theorem wl_putN {row : Array Value} (hi : (Try.prog.info? ty).map (·.size) = some n) (hr : row.size = n) (h1 : row.all (·.oneCell') = true) (hx : a.eval x = .pointer (some ⟨p, o, none⟩)) (hy : a.eval y = .agg row) (hp : w.heap[p]? = some (.cells cs ty2 (0, 0))) (hf : o + row.size <= cs.size)
  (h : ∀ W, (∀ B w0, B <= p -> Below B w0 w -> Below B w0 W) -> W.heap.size = w.heap.size -> (∀ g, g ≠ p -> W.heap[g]? = w.heap[g]?) -> W.heap[p]? = some (.cells (putN cs o row) ty2 (0, 0)) -> wpList Try.prog ops Q rest (a.put none undef) W) :
  wpList Try.prog ops Q (⟨none, .store ty x y, ty', pos, after, none⟩ :: rest) a w :=
 wl_storeN rfl ty x y rfl hi hx hy hr h1 hp hf (h _ (fun B w0 hB hb => below_setRow hb hB _) (by simp) (fun g hg => setRow_other w p g _ hg) (hr_new hp))
theorem wl_putC {v : Value} (hi : (Try.prog.info? ty).map (·.size) = some 1) (h1 : v.oneCell' = true) (hx : a.eval x = .pointer (some ⟨p, o, none⟩)) (hy : a.eval y = v) (hp : w.heap[p]? = some (.cells cs ty2 (0, 0))) (hf : o < cs.size)
  (h : ∀ W, (∀ B w0, B <= p -> Below B w0 w -> Below B w0 W) -> W.heap.size = w.heap.size -> (∀ g, g ≠ p -> W.heap[g]? = w.heap[g]?) -> W.heap[p]? = some (.cells (cs.setIfInBounds o v) ty2 (0, 0)) -> wpList Try.prog ops Q rest (a.put none undef) W) :
  wpList Try.prog ops Q (⟨none, .store ty x y, ty', pos, after, none⟩ :: rest) a w := by
 refine wl_storeC rfl ty x y rfl p o _ hx hy hi h1 (by rw [cell_of_row _ _ _ _ _ _ hp, Array.getElem?_eq_getElem hf]; rfl) (by unfold World.frozen?; rw [hp]; rfl) ?_
 exact h _ (fun B w0 hB hb => hb.setCell hB _) (by simp [World.setCell]) (fun g hg => heap_setCell_other _ _ _ _ hg) (hs_new hp)
end
theorem cell9_ty {k n : Int} {s : ByteArray} {r r' : Array Value} {A2 : Option Addr} {l2 c2 : Nat} {A3 : Option Addr} {l3 c3 : Nat} (h : r.size = 4) (h' : r'.size = 4) : putN (cell9 k n s r A2 l2 c2 A3 l3 c3) 3 r' = cell9 k n s r' A2 l2 c2 A3 l3 c3 := by
 obtain ⟨l⟩ := r
 obtain ⟨l'⟩ := r'
 match l, h, l', h' with
 | [a, b, c, d], _, [a', b', c', d'], _ => rfl
theorem cell9_tys {k n : Int} {s : ByteArray} {r : Array Value} {A2 : Option Addr} {l2 c2 : Nat} {A3 : Option Addr} {l3 c3 : Nat} (h : r.size = 4) (A2' : Option Addr) (l2' c2' : Nat) : (cell9 k n s r A2 l2 c2 A3 l3 c3).setIfInBounds 7 (.slice A2' l2' c2') = cell9 k n s r A2' l2' c2' A3 l3 c3 := by
 obtain ⟨l⟩ := r
 match l, h with
 | [a, b, c, d], _ => rfl
theorem cell9_vs {k n : Int} {s : ByteArray} {r : Array Value} {A2 : Option Addr} {l2 c2 : Nat} {A3 : Option Addr} {l3 c3 : Nat} (h : r.size = 4) (A3' : Option Addr) (l3' c3' : Nat) : (cell9 k n s r A2 l2 c2 A3 l3 c3).setIfInBounds 8 (.slice A3' l3' c3') = cell9 k n s r A2 l2 c2 A3' l3' c3' := by
 obtain ⟨l⟩ := r
 match l, h with
 | [a, b, c, d], _ => rfl
theorem ty_one {w : World} {D : Nat -> Prop} {t : Ty} {row : Array Value} (h : TyAt w D t row) : row.all (·.oneCell') = true := by
 obtain ⟨tk, ts, tn, tA, tl, tc, rfl⟩ := r4_cells h
 simp [cell4, Value.oneCell']
def NewVa (w : World) (v : Va) (e : Ending) (w' : World) : Prop := ∃ row, e = .returned (.agg row) /\ VAt w' (fun b => w.heap.size <= b) v row /\ Below w.heap.size w w'
def NewC (w : World) (l : List Va) (e : Ending) (w' : World) : Prop := ∃ A c rows, e = .returned (.slice A l.length c) /\ OwnL w' 35 9 A c rows /\ rows.length = l.length /\ (∀ g, A = some ⟨g, 0, none⟩ -> w.heap.size <= g) /\ (∀ (j : Nat) (v : Va) (row : Array Value), l[j]? = some v -> rows[j]? = some row -> VAt w' (fun b => w.heap.size <= b /\ A ≠ some ⟨b, 0, none⟩) v row) /\ Below w.heap.size w w'
theorem NewC.vs {w w' : World} {l : List Va} {A : Option Addr} {c : Nat} {rows : List (Array Value)} (ho : OwnL w' 35 9 A c rows) (hl : rows.length = l.length) (hA : ∀ g, A = some ⟨g, 0, none⟩ -> w.heap.size <= g) (hv : ∀ (j : Nat) (v : Va) (row : Array Value), l[j]? = some v -> rows[j]? = some row -> VAt w' (fun b => w.heap.size <= b /\ A ≠ some ⟨b, 0, none⟩) v row) : VsAt w' (fun b => w.heap.size <= b) l A l.length c := by
 refine ⟨rfl, by rw [<- hl]; exact ho.cap, ho.max, fun i => rows.getD i #[], fun i v hi => ?_, fun i v hi => ?_⟩
 ·have hil := (List.getElem?_eq_some_iff.1 hi).1
  obtain ⟨g, cur, e, hg, hsz, hall⟩ := ho.addr (i := i) (by omega)
  have hri := List.getElem?_eq_getElem (show i < rows.length by omega)
  refine ⟨g, 0, cur, 35, (0, 0), e, hA g e, hg, ?_⟩
  show cur.extract (0 + i * 9) (0 + i * 9 + 9) = rows.getD i #[]
  rw [List.getD_eq_getElem?_getD, hri]
  simp only [Option.getD_some, Nat.zero_add]
  exact hall i _ hri
 ·have hil := (List.getElem?_eq_some_iff.1 hi).1
  have hri := List.getElem?_eq_getElem (show i < rows.length by omega)
  show VAt w' _ v (rows.getD i #[])
  rw [List.getD_eq_getElem?_getD, hri]
  exact (hv i v _ hi hri).weak fun b hb => hb.1
def CopyVC (v : Va) : Prop := nodesF v <= 1000000 -> ∀ (w : World) (D : Nat -> Prop) (row : Array Value), VAt w D v row -> Calls Try.prog 88 #[.agg row] w (NewVa w v)
theorem CopyValues_of (ts : List Va) (ih : ∀ t, t ∈ ts -> CopyVC t) (hlen : ts.length <= 1000000) (hnl : ∀ t, t ∈ ts -> nodesF t <= 1000000) (A : Option Addr) (l c : Nat) (w : World) (D : Nat -> Prop) (h : VsAt w D ts A l c) :
  Calls Try.prog 95 #[.slice A l c] w (NewC w ts) := by
 have HT := Zi h
 have HL := Zi h.len
 have hl6 : l <= 1000000 := by have := h.len; omega
 have HI := Zi fun t ht => ih t ht (hnl t ht)
 have hcm := h.cap
 have hmx := h.max
 unfold maxLen at hmx
 clear h ih hnl hlen
 have hb := Below.refl w.heap.size w
 go_enter Try.func95, Try.ntmps95
 go_wp2_with fail
 go_loopw [3, 4] (fun v i wr => ∃ (j : Nat) (A9 : Option Addr) (c9 : Nat) (rows : List (Array Value)), j <= l /\ v = .slice A9 j c9 /\ i = .int .i64 (j : Int) /\ Hid (OwnL wr 35 9 A9 c9 rows) /\ Hid (rows.length = j) /\ Hid (∀ g, A9 = some ⟨g, 0, none⟩ -> w.heap.size <= g) /\ Hid (∀ (j : Nat) (v : Va) (row : Array Value), ts[j]? = some v -> rows[j]? = some row -> VAt wr (fun b => w.heap.size <= b /\ A9 ≠ some ⟨b, 0, none⟩) v row) /\ Below w.heap.size w wr) (fun _ i _ => l - (intOf i).toNat)
 case atStart => exact ⟨0, none, 0, [], by omega, rfl, rfl, Zi (OwnL.nil _ _ _), Zi rfl, Zi (fun g e => by cases e), Zi (fun j v row _ h => by simp at h), hb⟩
 case round =>
  clear hb
  obtain ⟨j, A9, c9, rows, hj, rfl, rfl, HO, HRL, HA, HVs, hb⟩ := hrel
  by_cases hlt : j < l
  ·have hltI : (j : Int) < (l : Int) := by omega
   obtain ⟨b, off, t, row, rfl, -, ht, hta, hrow⟩ := (HT.out.old hb).getB hlt
   have HRW := Zi (hrow wr (Below.refl _ _))
   have HC := Zi (HI.out t (List.mem_of_getElem? ht) wr D row hta)
   have HST := Zi ht
   clear hta ht hrow
   go_upto_region 5 with fail
   apply Zl
   iterate 4 refine Zm ?_
   refine Zw rfl (HRW.out) ?_
   refine Zn HC.out ?_; rintro e w7 ⟨row7, rfl, hv7, hb7⟩; refine ⟨_, rfl, ?_⟩; simp only [Zq]
   have HV7 : Hid (VAt w7 (fun b => wr.heap.size <= b) t row7) := Zi hv7
   have hs7 := hv7.size
   have h17 := hv7.one
   clear hv7 HC
   (with_reducible refine wl_bsV rfl hs7 ?_)
   intro W8 q8 hbn hlq8 hq8
   simp only [Zq]
   have HZ := Zi (hb7.trans (hbn.mono hb7.size))
   have HO8 := Zi (HO.out.old HZ.out)
   have HV8 := Zi (HV7.out.old hbn)
   have hb8 := hb.trans (HZ.out.mono hb.size)
   clear hbn hb7 HV7
   refine wl_pushL elt33 rfl _ _ rfl (show _ = Value.slice A9 rows.length c9 by rw [HRL.out]; rfl) rfl HO8.out hq8 hs7 h17 (by have := HRL.out; omega) (by have := HRL.out; unfold maxLen; omega) ?_
   rw [HRL.out]
   intro A' c' W9 hown hk9 hA9
   have hb9 := Below.keep hb8 hk9 (fun b e => HA.out b e)
   have hlo := HO.out
   have hwz := hb.size
   have HA' : Hid (∀ g, A' = some ⟨g, 0, none⟩ -> w.heap.size <= g) := Zi (fun g e => by
    rcases hA9 with e2 | ⟨g', e2, e3⟩
    ·exact HA.out g (by rw [<- e2]; exact e)
    ·rw [e] at e2; cases e2; have := hb8.size; omega)
   have hltA : ∀ g, A9 = some ⟨g, 0, none⟩ -> g < wr.heap.size := fun g e => by
    rcases hlo.el with ⟨e1, -, -⟩ | ⟨g', cur, e1, e2, -⟩
    ·rw [e1] at e; cases e
    ·rw [e1] at e; cases e; exact heap_lt e2
   have HV9 : Hid (∀ (i : Nat) (v : Va) (row : Array Value), ts[i]? = some v -> (rows ++ [row7])[i]? = some row -> VAt W9 (fun b => w.heap.size <= b /\ A' ≠ some ⟨b, 0, none⟩) v row) := Zi (fun i v row hv hr => by
    have hrl := HRL.out
    rcases Nat.lt_trichotomy i rows.length with e | e | e
    ·rw [List.getElem?_append_left e] at hr
     refine ((HVs.out i v row hv hr).low).mono (D' := fun b => w.heap.size <= b /\ A' ≠ some ⟨b, 0, none⟩) (fun b h9 => ⟨h9.1.1, fun e2 => ?_⟩) fun b h9 _ => (hk9.block b (by have := HZ.out.size; have := h9.2; omega) fun e2 => h9.1.2 e2).trans (HZ.out.block b h9.2)
     rcases hA9 with e3 | ⟨g', e3, e4⟩
     ·exact h9.1.2 (by rw [<- e3]; exact e2)
     ·rw [e2] at e3; cases e3; have := HZ.out.size; have := h9.2; omega
    ·rw [e] at hv hr
     rw [List.getElem?_concat_length] at hr
     cases hr
     rw [hrl, HST.out] at hv
     cases hv
     refine HV8.out.low.mono (D' := fun b => w.heap.size <= b /\ A' ≠ some ⟨b, 0, none⟩) (fun b h9 => ⟨by have := h9.1; omega, fun e2 => ?_⟩) fun b h9 _ => hk9.block b h9.2 fun e2 => by have := hltA b e2; have := h9.1; omega
     rcases hA9 with e3 | ⟨g', e3, e4⟩
     ·have := hltA b (by rw [<- e3]; exact e2); have := h9.1; omega
     ·rw [e2] at e3; cases e3; have := h9.2; omega
    ·rw [List.getElem?_eq_none (by simp; omega)] at hr; cases hr)
   have HO9 := Zi hown
   have HRL9 : Hid ((rows ++ [row7]).length = j + 1) := Zi (by rw [List.length_append, HRL.out]; rfl)
   clear hown hk9 hA9 HO HVs HA hb hq8 hlo hltA hwz HZ HO8 HV8 hb8
   simp only [Zq]
   refine Zm ?_
   go_wp2_with fail
   go_roundw
   case rel => exact ⟨j + 1, A', c', rows ++ [row7], by omega, rfl, by go_num, HO9, HRL9, HA', HV9, hb9⟩
   case measure => simp [intOf]; omega
  ·have hltI : ¬ (j : Int) < (l : Int) := by omega
   have hjl : Hid (j = ts.length) := Zi (by rw [HL.out]; omega)
   go_wp2_with fail
   go_ret
   refine ⟨A9, c9, rows, by rw [<- hjl.out]; rfl, HO.out, by rw [HRL.out, hjl.out], HA.out, HVs.out, hb⟩
theorem CopyValue_any : ∀ v : Va, CopyVC v := Va.ind fun v ih hnd w D row h => by
 obtain ⟨tr, A2, l2, c2, A3, l3, c3, hr0⟩ := h.row
 have hrs := h.size
 have hr1 := h.one
 obtain ⟨-, -, -, -, -, -, -, -, -, -, -, hk, hn, hs⟩ := h.parts
 have HK := Zi (show (Lit.int .i64 v.kind).wf = true /\ (Lit.int .i64 v.num).wf = true /\ v.txt.size <= maxLen from ⟨hk, hn, hs⟩)
 have hne := nodesF_eq v
 have hts4 := hr0.ty.size
 have HR := Zi hr0
 have hzs : zrow.size = 9 := rfl
 have zone : zrow.all (·.oneCell') = true := (zero_va w D).one
 have HI := Zi (show ∀ (w' : World), VsAt w' D v.parts A3 l3 c3 -> Calls Try.prog 95 #[.slice A3 l3 c3] w' (NewC w' v.parts) from fun w' h' => CopyValues_of v.parts ih (by have := len_nodesF v.parts; omega) (fun t ht => by have := mem_nodesF ht; omega) A3 l3 c3 w' D h')
 have HI1 := Zi (show ∀ (w' : World), TyAt w' D v.typ tr -> Calls Try.prog 83 #[.agg tr] w' (NewTy w' v.typ) from fun w' h' => CopyType_any v.typ (by omega) w' D tr h')
 have HI2 := Zi (show ∀ (w' : World), TysAt w' D v.tys A2 l2 c2 -> Calls Try.prog 105 #[.slice A2 l2 c2] w' (NewOwn w' v.tys) from fun w' h' => CopyTypes_any v.tys (by omega) A2 l2 c2 w' D h')
 clear h hk hn hs ih hnd hne hr0
 have hb := Below.refl w.heap.size w
 go_enter Try.func88, Try.ntmps88
 go_upto_region 0 with fail
 apply Zl
 (with_reducible refine wl_boxV rfl ?_); intro W p hbn hlp hp; replace hb := hb.trans (hbn.mono hb.size); clear hbn; simp only [Zq]
 have lthpq := heap_lt hp; (with_reducible refine wl_allV ?_); intro W2 q hbn hlq hq; replace hp := below_look hbn hp; replace hb := hb.trans (hbn.mono hb.size); clear hbn; simp only [Zq]
 go_upto_region 1 with fail
 apply Zl
 refine Zw rfl (vrow (by assumption) (by assumption)) ?_
 have lthpr := heap_lt hp; have lthqr := heap_lt hq; (with_reducible refine wl_allV ?_); intro W3 r hbn hlr hr; replace hp := below_look hbn hp; replace hq := below_look hbn hq; replace hb := hb.trans (hbn.mono hb.size); clear hbn; simp only [Zq]
 (with_reducible refine wl_putV hrs hr1 hzs rfl rfl hr ?_); rw [put_noneA]; intro W4 hbx hsz hkx hnx; replace hp := (hkx _ (by omega)).trans hp; replace hq := (hkx _ (by omega)).trans hq; replace hb := hbx _ _ (by omega) hb; clear hr; have hr := hnx; clear hnx hbx hkx hsz
 have HC1 := Zi (HI1.out W4 (HR.out.ty.old hb))
 clear HI1
 go_upto_region 2 with fail
 apply Zl
 refine Zm ?_
 refine Zw rfl (vt (by assumption) (by assumption)) ?_
 refine Zn HC1.out ?_; rintro e w5 ⟨row5, rfl, hty5, hb5⟩; refine ⟨_, rfl, ?_⟩; simp only [Zq]
 have hs5 := hty5.size
 have hlr := heap_lt hr
 have hlq' := heap_lt hq
 have HT5 : Hid (TyAt w5 (fun b => w.heap.size <= b /\ b ≠ q /\ b ≠ r) v.typ row5) := Zi (hty5.weak fun b (h9 : W4.heap.size <= b) => ⟨by have := hb.size; omega, by omega, by omega⟩)
 have h15 := ty_one hty5
 clear hty5 HC1
 replace hp := below_look hb5 hp; replace hq := below_look hb5 hq; replace hr := below_look hb5 hr; replace hb := hb.trans (hb5.mono hb.size); clear hb5
 refine Zm ?_
 (with_reducible refine wl_putN info24 hs5 h15 rfl rfl hr (by rw [hs5, hrs]; omega) ?_); rw [put_noneA]; intro W6 hbx hsz hkx hnx; replace hp := (hkx _ (by omega)).trans hp; replace hq := (hkx _ (by omega)).trans hq; replace hb := hbx _ _ (by omega) hb; clear hr; have hr := hnx; clear hnx
 replace HT5 := Zi (HT5.out.mono (fun _ h => h) (fun b h9 => hkx b h9.2.2))
 rw [HR.out.eq, cell9_ty hts4 hs5] at hr
 clear hbx hkx hsz
 have HC2 := Zi (HI2.out W6 (HR.out.tys.old hb))
 clear HI2
 go_upto_region 3 with fail
 apply Zl
 refine Zm ?_
 refine Zo rfl (vts (by assumption) (by assumption)) ?_
 refine Zn HC2.out ?_; rintro e w7 ⟨A7, l7, c7, rfl, hown7, hb7⟩; refine ⟨_, rfl, ?_⟩; simp only [Zq]
 obtain ⟨A7', l7', c7', he7, hta7⟩ := hown7.at
 cases he7
 clear hown7
 have hlr := heap_lt hr
 have hlq' := heap_lt hq
 have HT7 : Hid (TysAt w7 (fun b => w.heap.size <= b /\ b ≠ q /\ b ≠ r) v.tys A7 l7 c7) := Zi (hta7.weak fun b (h9 : W6.heap.size <= b) => ⟨by have := hb.size; omega, by omega, by omega⟩)
 replace HT5 := Zi (HT5.out.old hb7)
 clear hta7 HC2
 replace hp := below_look hb7 hp; replace hq := below_look hb7 hq; replace hr := below_look hb7 hr; replace hb := hb.trans (hb7.mono hb.size); clear hb7
 refine Zm ?_
 (with_reducible refine wl_putC (v := .slice A7 l7 c7) info22 rfl rfl rfl hr (by rw [cell9_size hs5]; omega) ?_); rw [put_noneA]; intro W8 hbx hsz hkx hnx; replace hp := (hkx _ (by omega)).trans hp; replace hq := (hkx _ (by omega)).trans hq; replace hb := hbx _ _ (by omega) hb; clear hr; have hr := hnx; clear hnx
 replace HT5 := Zi (HT5.out.mono (fun _ h => h) (fun b h9 => hkx b h9.2.2))
 replace HT7 := Zi (HT7.out.mono (fun _ h => h) (fun b h9 => hkx b h9.2.2))
 rw [cell9_tys hs5] at hr
 clear hbx hkx hsz
 have HC3 := Zi (HI.out W8 (HR.out.vs.old hb))
 clear HI
 go_upto_region 4 with fail
 apply Zl
 refine Zm ?_
 refine Zo rfl (vl (by assumption) (by assumption)) ?_
 refine Zn HC3.out ?_; rintro e w9 ⟨A9, c9, rows9, rfl, ho9, hl9, hA9, hv9, hb9⟩; refine ⟨_, rfl, ?_⟩; simp only [Zq]
 have hvs9 := NewC.vs ho9 hl9 hA9 hv9
 have hlr := heap_lt hr
 have hlq' := heap_lt hq
 have HT9 : Hid (VsAt w9 (fun b => w.heap.size <= b /\ b ≠ q /\ b ≠ r) v.parts A9 v.parts.length c9) := Zi (hvs9.weak fun b (h9 : W8.heap.size <= b) => ⟨by have := hb.size; omega, by omega, by omega⟩)
 replace HT5 := Zi (HT5.out.old hb9)
 replace HT7 := Zi (HT7.out.old hb9)
 clear hvs9 ho9 hl9 hA9 hv9 HC3
 replace hp := below_look hb9 hp; replace hq := below_look hb9 hq; replace hr := below_look hb9 hr; replace hb := hb.trans (hb9.mono hb.size); clear hb9
 refine Zm ?_
 (with_reducible refine wl_putC (v := .slice A9 v.parts.length c9) info33e rfl rfl rfl hr (by rw [cell9_size hs5]; omega) ?_); rw [put_noneA]; intro W10 hbx hsz hkx hnx; replace hp := (hkx _ (by omega)).trans hp; replace hq := (hkx _ (by omega)).trans hq; replace hb := hbx _ _ (by omega) hb; clear hr; have hr := hnx; clear hnx
 replace HT5 := Zi (HT5.out.mono (fun _ h => h) (fun b h9 => hkx b h9.2.2))
 replace HT7 := Zi (HT7.out.mono (fun _ h => h) (fun b h9 => hkx b h9.2.2))
 replace HT9 := Zi (HT9.out.mono (fun _ h => h) (fun b h9 _ => hkx b h9.2.2))
 rw [cell9_vs hs5] at hr
 clear hbx hkx hsz
 have hva : VAt W10 (fun b => w.heap.size <= b /\ b ≠ q /\ b ≠ r) v (cell9 v.kind v.num v.txt row5 A7 l7 c7 A9 v.parts.length c9) := by
  have := VAt.of HK.out.1 HK.out.2.1 HK.out.2.2 HT5.out HT7.out HT9.out
  cases v; exact this
 have hvz := hva.size
 have hv1 := hva.one
 have HVA := Zi hva
 clear hva HT5 HT7 HT9 HR
 go_upto_region 5 with fail
 apply Zl
 refine Zw rfl (row35 hr hvz) ?_
 (with_reducible refine wl_putV hvz hv1 hzs rfl rfl hq ?_); rw [put_noneA]; intro W11 hbx hsz hkx hnx; replace hb := hbx _ _ (by omega) hb; clear hq; have hq := hnx; clear hnx
 replace HVA := Zi (HVA.out.mono (D' := fun b => w.heap.size <= b) (fun _ h => h.1) (fun b h9 _ => hkx b h9.2.1))
 clear hbx hkx hsz
 have HQ := Zi hq
 clear hp hq hr
 go_wp2_with fail
 exact bodyPost_ret (res35 rfl _ _ q rfl hvz HQ.out) rfl ⟨_, rfl, HVA.out, hb⟩
theorem CopyValues_any (ts : List Va) (hlen : ts.length <= 1000000) (hnl : ∀ t, t ∈ ts -> nodesF t <= 1000000) (A : Option Addr) (l c : Nat) (w : World) (D : Nat -> Prop) (h : VsAt w D ts A l c) :
  Calls Try.prog 95 #[.slice A l c] w (NewC w ts) := CopyValues_of ts (fun t _ => CopyValue_any t) hlen hnl A l c w D h
open Go.RowKit Go.Proofs.Ytpamocglecangaa.Nm
set_option linter.unusedSimpArgs false
def cellD (dA : Option Addr) (dl dc : Nat) (oA : Option Addr) (ol oc : Nat) (bA : Option Addr) (bl bc : Nat) (lA : Option Addr) (ll lc : Nat) (rA : Option Addr) (rl rc : Nat) : Array Value := #[.slice dA dl dc, .slice oA ol oc, .slice bA bl bc, .slice lA ll lc, .slice rA rl rc]
theorem u22d : Try.prog.underlying 22 = some (.slice 9) := by kernel_rfl
theorem u38d : Try.prog.underlying 38 = some (.slice 41) := by kernel_rfl
theorem u78d : Try.prog.underlying 78 = some (.slice 97) := by kernel_rfl
theorem u90d : Try.prog.underlying 90 = some (.slice 102) := by kernel_rfl
section
variable {w : World} {p : Nat} {dA : Option Addr} {dl dc : Nat} {oA : Option Addr} {ol oc : Nat} {bA : Option Addr} {bl bc : Nat} {lA : Option Addr} {ll lc : Nat} {rA : Option Addr} {rl rc : Nat} {t : TypeId} {fr : Nat × Nat}
theorem dh0 (hp : w.heap[p]? = some (.cells (cellD dA dl dc oA ol oc bA bl bc lA ll lc rA rl rc) t fr)) : OneAt w 22 ⟨p, 0, none⟩ (.slice dA dl dc) := one_of u22d rfl (by rw [cell_of_row _ _ _ _ _ _ hp]; rfl)
theorem dh1 (hp : w.heap[p]? = some (.cells (cellD dA dl dc oA ol oc bA bl bc lA ll lc rA rl rc) t fr)) : OneAt w 38 ⟨p, 1, none⟩ (.slice oA ol oc) := one_of u38d rfl (by rw [cell_of_row _ _ _ _ _ _ hp]; rfl)
theorem dh2 (hp : w.heap[p]? = some (.cells (cellD dA dl dc oA ol oc bA bl bc lA ll lc rA rl rc) t fr)) : OneAt w 78 ⟨p, 2, none⟩ (.slice bA bl bc) := one_of u78d rfl (by rw [cell_of_row _ _ _ _ _ _ hp]; rfl)
theorem dh3 (hp : w.heap[p]? = some (.cells (cellD dA dl dc oA ol oc bA bl bc lA ll lc rA rl rc) t fr)) : OneAt w 90 ⟨p, 3, none⟩ (.slice lA ll lc) := one_of u90d rfl (by rw [cell_of_row _ _ _ _ _ _ hp]; rfl)
theorem dh4 (hp : w.heap[p]? = some (.cells (cellD dA dl dc oA ol oc bA bl bc lA ll lc rA rl rc) t fr)) : OneAt w 22 ⟨p, 4, none⟩ (.slice rA rl rc) := one_of u22d rfl (by rw [cell_of_row _ _ _ _ _ _ hp]; rfl)
end
abbrev HdrD (w : World) (p : Nat) (no nb : Nat) : Prop := ∃ dA dl dc oA oc bA bc lA ll lc rA rl rc, w.heap[p]? = some (.cells (cellD dA dl dc oA no oc bA nb bc lA ll lc rA rl rc) 92 (0, 0))
theorem has_v {w : World} {D : Nat -> Prop} {v : Va} {row : Array Value} (h : VAt w D v row) : Calls Try.prog 106 #[.agg row] w fun e w' => e = .returned (.bool (hasK v.kind)) /\ Below w.heap.size w w' := by
 obtain ⟨tr, A2, l2, c2, A3, l3, c3, hr⟩ := h.row
 have HR := Zi hr
 clear h hr
 obtain ⟨B, hB⟩ : ∃ B, B = hasK v.kind := ⟨_, rfl⟩
 rw [<- hB]
 rw [hasK_eq] at hB
 have HB := Zi hB
 clear hB
 have hb := Below.refl w.heap.size w
 go_enter Try.func106, Try.ntmps106
 go_upto_region 0 with fail
 apply Zl
 (with_reducible refine wl_boxV rfl ?_); intro W p hbn hlp hp; replace hb := hb.trans (hbn.mono hb.size); clear hbn; simp only [Zq]
 refine Zm ?_
 by_cases c5 : v.kind = 5
 ·have e5 : (v.kind == 5) = true := by simp [c5]
  obtain rfl : B = true := by rw [HB.out, e5]; rfl
  clear c5
  go_upto_region 1 with fail
  apply Zl
  refine Zm ?_
  refine Zo rfl (vk (by assumption) (by assumption)) ?_
  iterate 2 refine Zm ?_
  iterate 3 ((first | ((with_reducible refine wl_skipU ?_ ?_ ?_); exact rfl; exact rfl) | ((with_reducible refine wl_skip ?_ ?_); exact rfl; simp only [Zq])))
  iterate 2 refine Zm ?_
  iterate 3 ((first | ((with_reducible refine wl_skipU ?_ ?_ ?_); exact rfl; exact rfl) | ((with_reducible refine wl_skip ?_ ?_); exact rfl; simp only [Zq])))
  iterate 2 refine Zm ?_
  iterate 3 ((first | ((with_reducible refine wl_skipU ?_ ?_ ?_); exact rfl; exact rfl) | ((with_reducible refine wl_skip ?_ ?_); exact rfl; simp only [Zq])))
  iterate 2 refine Zm ?_
  go_wp2_with fail
  go_ret
  exact ⟨rfl, hb⟩
 have e5 : (v.kind == 5) = false := by simp [c5]
 by_cases c6 : v.kind = 6
 ·have e6 : (v.kind == 6) = true := by simp [c6]
  obtain rfl : B = true := by rw [HB.out, e5, e6]; rfl
  clear c5 c6
  go_upto_region 1 with fail
  apply Zl
  refine Zm ?_
  refine Zo rfl (vk (by assumption) (by assumption)) ?_
  iterate 3 refine Zm ?_
  refine Zo rfl (vk (by assumption) (by assumption)) ?_
  iterate 3 refine Zm ?_
  iterate 3 ((first | ((with_reducible refine wl_skipU ?_ ?_ ?_); exact rfl; exact rfl) | ((with_reducible refine wl_skip ?_ ?_); exact rfl; simp only [Zq])))
  iterate 2 refine Zm ?_
  iterate 3 ((first | ((with_reducible refine wl_skipU ?_ ?_ ?_); exact rfl; exact rfl) | ((with_reducible refine wl_skip ?_ ?_); exact rfl; simp only [Zq])))
  iterate 2 refine Zm ?_
  go_wp2_with fail
  go_ret
  exact ⟨rfl, hb⟩
 have e6 : (v.kind == 6) = false := by simp [c6]
 by_cases c9 : v.kind = 9
 ·have e9 : (v.kind == 9) = true := by simp [c9]
  obtain rfl : B = true := by rw [HB.out, e5, e6, e9]; rfl
  clear c5 c6 c9
  go_upto_region 1 with fail
  apply Zl
  refine Zm ?_
  refine Zo rfl (vk (by assumption) (by assumption)) ?_
  iterate 3 refine Zm ?_
  refine Zo rfl (vk (by assumption) (by assumption)) ?_
  iterate 4 refine Zm ?_
  refine Zo rfl (vk (by assumption) (by assumption)) ?_
  iterate 3 refine Zm ?_
  iterate 3 ((first | ((with_reducible refine wl_skipU ?_ ?_ ?_); exact rfl; exact rfl) | ((with_reducible refine wl_skip ?_ ?_); exact rfl; simp only [Zq])))
  iterate 2 refine Zm ?_
  go_wp2_with fail
  go_ret
  exact ⟨rfl, hb⟩
 have e9 : (v.kind == 9) = false := by simp [c9]
 obtain ⟨c, hc⟩ : ∃ c, c = (v.kind == 10) := ⟨_, rfl⟩
 have e10 := hc.symm
 obtain rfl : B = c := by rw [HB.out, e5, e6, e9, e10]; rfl
 clear c5 c6 c9 hc HB
 go_upto_region 1 with fail
 apply Zl
 refine Zm ?_
 refine Zo rfl (vk (by assumption) (by assumption)) ?_
 iterate 3 refine Zm ?_
 refine Zo rfl (vk (by assumption) (by assumption)) ?_
 iterate 4 refine Zm ?_
 refine Zo rfl (vk (by assumption) (by assumption)) ?_
 iterate 4 refine Zm ?_
 refine Zo rfl (vk (by assumption) (by assumption)) ?_
 iterate 3 refine Zm ?_
 go_wp2_with fail
 go_ret
 exact ⟨rfl, hb⟩
def DOfC (p no nb : Nat) (v : Va) : Prop := ∀ (w : World) (D : Nat -> Prop) (row : Array Value), VAt w D v row -> HdrD w p no nb ->
 Calls Try.prog 85 #[.pointer (some ⟨p, 0, none⟩), .agg row] w fun e w' => e = .returned (.bool (ofV no nb v)) /\ Below w.heap.size w w'
theorem dof_any (p no nb : Nat) (hno : no <= maxLen) (hnb : nb <= maxLen) : ∀ v : Va, DOfC p no nb v := Va.ind fun v ih w D row h hh => by
 obtain ⟨dA, dl, dc, oA, oc, bA, bc, lA, ll, lc, rA, rl, rc, hh⟩ := hh
 obtain ⟨tr, A2, l2, c2, A3, l3, c3, hr⟩ := h.row
 unfold maxLen at hno hnb
 have HR := Zi hr
 have HI := Zi ih
 have HVV := Zi h
 have hcm3 := hr.vs.cap
 have hmx3 := hr.vs.max
 unfold maxLen at hmx3
 have HL3 := Zi hr.vs.len
 clear h hr ih
 have hb := Below.refl w.heap.size w
 go_enter Try.func85, Try.ntmps85
 go_upto_region 0 with fail
 apply Zl
 have lthhq := heap_lt hh; (with_reducible refine wl_boxV rfl ?_); intro W q hbn hlq hq; replace hh := below_look hbn hh; replace hb := hb.trans (hbn.mono hb.size); clear hbn; simp only [Zq]
 refine Zm ?_
 have hp := hq
 clear hq
 go_upto_region 1 with fail
 apply Zl
 refine Zm ?_
 refine Zo rfl (vk (by assumption) (by assumption)) ?_
 by_cases h7 : v.kind = 7
 ·have e7 : (v.kind == 7) = true := by simp [h7]
  have HK := Zi h7
  clear h7
  go_upto_region 4 with fail
  by_cases hn0 : 0 <= v.num
  ·have hn0g : v.num ≥ 0 := hn0
   by_cases hn1 : v.num < (no : Int)
   ·have HF : Hid (ofV no nb v = true) := Zi (by rw [ofV_eq]; simp [HK.out, hn0, hn1])
    refine wp_region_belowAll mixed (by kernel_rfl) ?_
    refine Zt ?_
    refine Zv rfl (fun w' hw' => vn (below_look hw' (by assumption)) (by assumption)) ?_
    iterate 3 refine Zt ?_
    refine Zv rfl (fun w' hw' => vn (below_look hw' (by assumption)) (by assumption)) ?_
    iterate 3 refine Zt ?_
    refine Zv rfl (fun w' hw' => dh1 (below_look hw' (by assumption))) ?_
    iterate 4 refine Zt ?_
    intro w7 hb7
    replace hb := hb.trans (hb7.mono hb.size)
    clear hb7 hp hh
    go_wp2_with fail
    go_ret
    exact ⟨by rw [HF.out]; rfl, hb⟩
   ·have HF : Hid (ofV no nb v = false) := Zi (by rw [ofV_eq]; simp [HK.out, hn0, hn1])
    refine wp_region_belowAll mixed (by kernel_rfl) ?_
    refine Zt ?_
    refine Zv rfl (fun w' hw' => vn (below_look hw' (by assumption)) (by assumption)) ?_
    iterate 3 refine Zt ?_
    refine Zv rfl (fun w' hw' => vn (below_look hw' (by assumption)) (by assumption)) ?_
    iterate 3 refine Zt ?_
    refine Zv rfl (fun w' hw' => dh1 (below_look hw' (by assumption))) ?_
    iterate 4 refine Zt ?_
    intro w7 hb7
    replace hb := hb.trans (hb7.mono hb.size)
    clear hb7 hp hh
    go_wp2_with fail
    go_ret
    exact ⟨by rw [HF.out]; rfl, hb⟩
  ·have hn0g : ¬ v.num ≥ 0 := hn0
   have HF : Hid (ofV no nb v = false) := Zi (by rw [ofV_eq]; simp [HK.out, hn0])
   refine wp_region_belowAll mixed (by kernel_rfl) ?_
   refine Zt ?_
   refine Zv rfl (fun w' hw' => vn (below_look hw' (by assumption)) (by assumption)) ?_
   iterate 2 refine Zt ?_
   iterate 8 ((with_reducible refine wq_skip ?_ ?_); exact rfl; simp only [Zy])
   iterate 2 refine Zt ?_
   intro w7 hb7
   replace hb := hb.trans (hb7.mono hb.size)
   clear hb7 hp hh
   go_wp2_with fail
   go_ret
   exact ⟨by rw [HF.out]; rfl, hb⟩
 ·have e7 : (v.kind == 7) = false := by simp [h7]
  by_cases h11 : v.kind = 11
  ·have e11 : (v.kind == 11) = true := by simp [h11]
   have HK := Zi h11
   clear h7 h11
   go_upto_region 4 with fail
   by_cases hn0 : 0 <= v.num
   ·have hn0g : v.num ≥ 0 := hn0
    by_cases hn1 : v.num < (no : Int)
    ·have HF : Hid (ofV no nb v = true) := Zi (by rw [ofV_eq]; simp [HK.out, hn0, hn1])
     refine wp_region_belowAll mixed (by kernel_rfl) ?_
     refine Zt ?_
     refine Zv rfl (fun w' hw' => vn (below_look hw' (by assumption)) (by assumption)) ?_
     iterate 3 refine Zt ?_
     refine Zv rfl (fun w' hw' => vn (below_look hw' (by assumption)) (by assumption)) ?_
     iterate 3 refine Zt ?_
     refine Zv rfl (fun w' hw' => dh1 (below_look hw' (by assumption))) ?_
     iterate 4 refine Zt ?_
     intro w7 hb7
     replace hb := hb.trans (hb7.mono hb.size)
     clear hb7 hp hh
     go_wp2_with fail
     go_ret
     exact ⟨by rw [HF.out]; rfl, hb⟩
    ·have HF : Hid (ofV no nb v = false) := Zi (by rw [ofV_eq]; simp [HK.out, hn0, hn1])
     refine wp_region_belowAll mixed (by kernel_rfl) ?_
     refine Zt ?_
     refine Zv rfl (fun w' hw' => vn (below_look hw' (by assumption)) (by assumption)) ?_
     iterate 3 refine Zt ?_
     refine Zv rfl (fun w' hw' => vn (below_look hw' (by assumption)) (by assumption)) ?_
     iterate 3 refine Zt ?_
     refine Zv rfl (fun w' hw' => dh1 (below_look hw' (by assumption))) ?_
     iterate 4 refine Zt ?_
     intro w7 hb7
     replace hb := hb.trans (hb7.mono hb.size)
     clear hb7 hp hh
     go_wp2_with fail
     go_ret
     exact ⟨by rw [HF.out]; rfl, hb⟩
   ·have hn0g : ¬ v.num ≥ 0 := hn0
    have HF : Hid (ofV no nb v = false) := Zi (by rw [ofV_eq]; simp [HK.out, hn0])
    refine wp_region_belowAll mixed (by kernel_rfl) ?_
    refine Zt ?_
    refine Zv rfl (fun w' hw' => vn (below_look hw' (by assumption)) (by assumption)) ?_
    iterate 2 refine Zt ?_
    iterate 8 ((with_reducible refine wq_skip ?_ ?_); exact rfl; simp only [Zy])
    iterate 2 refine Zt ?_
    intro w7 hb7
    replace hb := hb.trans (hb7.mono hb.size)
    clear hb7 hp hh
    go_wp2_with fail
    go_ret
    exact ⟨by rw [HF.out]; rfl, hb⟩
  ·have e11 : (v.kind == 11) = false := by simp [h11]
   by_cases h8 : v.kind = 8
   ·have e8 : (v.kind == 8) = true := by simp [h8]
    have HK := Zi h8
    clear h7 h11 h8
    go_upto_region 6 with fail
    by_cases hn0 : 0 <= v.num
    ·have hn0g : v.num ≥ 0 := hn0
     by_cases hn1 : v.num < (nb : Int)
     ·have HF : Hid (ofV no nb v = true) := Zi (by rw [ofV_eq]; simp [HK.out, hn0, hn1])
      refine wp_region_belowAll mixed (by kernel_rfl) ?_
      refine Zt ?_
      refine Zv rfl (fun w' hw' => vn (below_look hw' (by assumption)) (by assumption)) ?_
      iterate 3 refine Zt ?_
      refine Zv rfl (fun w' hw' => vn (below_look hw' (by assumption)) (by assumption)) ?_
      iterate 3 refine Zt ?_
      refine Zv rfl (fun w' hw' => dh2 (below_look hw' (by assumption))) ?_
      iterate 4 refine Zt ?_
      intro w7 hb7
      replace hb := hb.trans (hb7.mono hb.size)
      clear hb7 hp hh
      go_wp2_with fail
      go_ret
      exact ⟨by rw [HF.out]; rfl, hb⟩
     ·have HF : Hid (ofV no nb v = false) := Zi (by rw [ofV_eq]; simp [HK.out, hn0, hn1])
      refine wp_region_belowAll mixed (by kernel_rfl) ?_
      refine Zt ?_
      refine Zv rfl (fun w' hw' => vn (below_look hw' (by assumption)) (by assumption)) ?_
      iterate 3 refine Zt ?_
      refine Zv rfl (fun w' hw' => vn (below_look hw' (by assumption)) (by assumption)) ?_
      iterate 3 refine Zt ?_
      refine Zv rfl (fun w' hw' => dh2 (below_look hw' (by assumption))) ?_
      iterate 4 refine Zt ?_
      intro w7 hb7
      replace hb := hb.trans (hb7.mono hb.size)
      clear hb7 hp hh
      go_wp2_with fail
      go_ret
      exact ⟨by rw [HF.out]; rfl, hb⟩
    ·have hn0g : ¬ v.num ≥ 0 := hn0
     have HF : Hid (ofV no nb v = false) := Zi (by rw [ofV_eq]; simp [HK.out, hn0])
     refine wp_region_belowAll mixed (by kernel_rfl) ?_
     refine Zt ?_
     refine Zv rfl (fun w' hw' => vn (below_look hw' (by assumption)) (by assumption)) ?_
     iterate 2 refine Zt ?_
     iterate 8 ((with_reducible refine wq_skip ?_ ?_); exact rfl; simp only [Zy])
     iterate 2 refine Zt ?_
     intro w7 hb7
     replace hb := hb.trans (hb7.mono hb.size)
     clear hb7 hp hh
     go_wp2_with fail
     go_ret
     exact ⟨by rw [HF.out]; rfl, hb⟩
   ·have e8 : (v.kind == 8) = false := by simp [h8]
    have HE : Hid (ofV no nb v = if hasK v.kind then ofVs no nb v.parts else decide (0 <= v.kind /\ v.kind <= 4)) := Zi (by rw [ofV_eq]; simp [h7, h11, h8])
    by_cases hlo : v.kind < 0
    ·have HF : Hid (ofV no nb v = false) := Zi (by
      have hk : hasK v.kind = false := by unfold hasK; simp; omega
      rw [HE.out, hk, if_neg (by simp)]; exact decide_eq_false (by omega))
     clear h7 h11 h8
     go_upto_region 7 with fail
     apply Zl
     refine Zm ?_
     refine Zo rfl (vk (by assumption) (by assumption)) ?_
     iterate 2 refine Zm ?_
     iterate 3 ((first | ((with_reducible refine wl_skipU ?_ ?_ ?_); exact rfl; exact rfl) | ((with_reducible refine wl_skip ?_ ?_); exact rfl; simp only [Zq])))
     refine Zm ?_
     go_upto_region 8 with fail
     apply Zl
     refine Zm ?_
     go_wp2_with fail
     go_ret
     exact ⟨by rw [HF.out]; rfl, hb⟩
    ·by_cases hhi : v.kind > 11
     ·have HF : Hid (ofV no nb v = false) := Zi (by
      have hk : hasK v.kind = false := by unfold hasK; simp; omega
      rw [HE.out, hk, if_neg (by simp)]; exact decide_eq_false (by omega))
      clear h7 h11 h8
      go_upto_region 7 with fail
      apply Zl
      refine Zm ?_
      refine Zo rfl (vk (by assumption) (by assumption)) ?_
      iterate 3 refine Zm ?_
      refine Zo rfl (vk (by assumption) (by assumption)) ?_
      iterate 2 refine Zm ?_
      go_upto_region 8 with fail
      apply Zl
      refine Zm ?_
      go_wp2_with fail
      go_ret
      exact ⟨by rw [HF.out]; rfl, hb⟩
     ·have HF : Hid (ofV no nb v = if hasK v.kind then ofVs no nb v.parts else true) := Zi (by
       rw [HE.out]
       by_cases e : hasK v.kind = true
       ·simp [e]
       ·rw [if_neg e, if_neg e]
        unfold hasK at e; simp at e
        exact decide_eq_true (by omega))
      clear h7 h11 h8
      go_upto_region 7 with fail
      apply Zl
      refine Zm ?_
      refine Zo rfl (vk (by assumption) (by assumption)) ?_
      iterate 3 refine Zm ?_
      refine Zo rfl (vk (by assumption) (by assumption)) ?_
      iterate 2 refine Zm ?_
      clear hlo hhi HE
      go_upto_region 9 with fail
      apply Zl
      refine Zm ?_
      obtain ⟨bk, hbk⟩ : ∃ b, b = hasK v.kind := ⟨_, rfl⟩
      have HK := Zi hbk
      have HF0 : Hid (ofV no nb v = if bk then ofVs no nb (v.parts.drop 0) else true) := Zi (by rw [HF.out, <- hbk]; rfl)
      have HP := Zi hp
      have HHD := Zi hh
      have hz := Below.refl W.heap.size W
      clear hbk HF hp hh
      go_wp2_with fail
      go_loopw [5] (fun i wr => ∃ j : Nat, j <= l3 /\ i = .int .i64 (j : Int) /\ Hid (ofV no nb v = if bk then ofVs no nb (v.parts.drop j) else true) /\ Below W.heap.size W wr) (fun i _ => l3 - (intOf i).toNat)
      case atStart => exact ⟨0, by omega, rfl, HF0, hz⟩
      case round =>
       clear hz HF0
       obtain ⟨j, hj, rfl, HF, hz⟩ := hrel
       have hp := below_look hz HP.out
       have hh := below_look hz HHD.out
       have hbr := hb.trans (hz.mono hb.size)
       have hch := has_v (HVV.out.old hbr)
       rw [<- HK.out] at hch
       have HCH := Zi hch
       clear hch
       cases bk with
       | false =>
        have HF2 : Hid (ofV no nb v = true) := Zi (by rw [HF.out]; rfl)
        clear HF
        go_upto_region 10 with fail
        apply Zl
        refine Zw rfl (vrow (by assumption) (by assumption)) ?_
        refine Zn HCH.out ?_; rintro e w7 ⟨rfl, hb7⟩; refine ⟨_, rfl, ?_⟩; simp only [Zq]
        replace hp := below_look hb7 hp; replace hh := below_look hb7 hh; replace hbr := hbr.trans (hb7.mono hbr.size); clear hb7
        refine Zm ?_
        iterate 5 ((first | ((with_reducible refine wl_skipU ?_ ?_ ?_); exact rfl; exact rfl) | ((with_reducible refine wl_skip ?_ ?_); exact rfl; simp only [Zq])))
        refine Zm ?_
        clear HCH
        go_upto_region 14 with fail
        apply Zl
        refine Zm ?_
        go_wp2_with fail
        go_ret
        exact ⟨by rw [HF2.out]; rfl, hbr⟩
       | true =>
        by_cases hlt : j < l3
        ·have hltI : (j : Int) < (l3 : Int) := by omega
         obtain ⟨b2, off2, u, rowu, rfl, -, hu, hua, hrow⟩ := (HR.out.vs.old hbr).getB hlt
         have HST := Zi (ofVs_step (no := no) (nb := nb) hu)
         have HIU := Zi (HI.out u (List.mem_of_getElem? hu))
         have HUA := Zi hua
         have HRU := Zi hrow
         clear hu hua hrow
         have hzz := Below.refl wr.heap.size wr
         go_upto_region 10 with fail
         apply Zl
         refine Zw rfl (vrow (by assumption) (by assumption)) ?_
         refine Zn HCH.out ?_; rintro e w7 ⟨rfl, hb7⟩; refine ⟨_, rfl, ?_⟩; simp only [Zq]
         replace hp := below_look hb7 hp; replace hh := below_look hb7 hh; replace hzz := hzz.trans (hb7.mono hzz.size); clear hb7
         iterate 3 refine Zm ?_
         refine Zo rfl (vl (by assumption) (by assumption)) ?_
         iterate 3 refine Zm ?_
         clear HCH
         obtain ⟨bb, hbb⟩ : ∃ b, b = ofV no nb u := ⟨_, rfl⟩
         have hc := HIU.out w7 _ _ (HUA.out.old hzz) ⟨_, _, _, _, _, _, _, _, _, _, _, _, _, hh⟩
         rw [<- hbb] at hc HST
         have HC := Zi hc
         have HRV := Zi (HRU.out w7 hzz)
         clear hc hbb
         go_upto_region 12 with fail
         apply Zl
         iterate 2 refine Zm ?_
         refine Zo rfl (vl (by assumption) (by assumption)) ?_
         iterate 2 refine Zm ?_
         refine Zw rfl (HRV.out) ?_
         refine Zn HC.out ?_; rintro e w8 ⟨rfl, hb8⟩; refine ⟨_, rfl, ?_⟩; simp only [Zq]
         replace hp := below_look hb8 hp; replace hh := below_look hb8 hh; replace hzz := hzz.trans (hb8.mono hzz.size); clear hb8
         refine Zm ?_
         clear HC
         replace hz := hz.trans (hzz.mono hz.size)
         replace hbr := hbr.trans (hzz.mono hbr.size)
         clear hzz
         cases bb with
         | false =>
          have HF2 : Hid (ofV no nb v = false) := Zi (by rw [HF.out, if_pos rfl, HST.out]; rfl)
          clear HF HST
          go_upto_region 13 with fail
          apply Zl
          refine Zm ?_
          go_wp2_with fail
          go_ret
          exact ⟨by rw [HF2.out]; rfl, hbr⟩
         | true =>
          have HF2 : Hid (ofV no nb v = if true then ofVs no nb (v.parts.drop (j + 1)) else true) := Zi (by rw [HF.out, if_pos rfl, if_pos rfl, HST.out]; rfl)
          clear HF HST
          go_wp2_with fail
          go_roundw
          case rel => exact ⟨j + 1, by omega, by go_num, HF2, hz⟩
          case measure => simp [intOf]; omega
        ·have hltI : ¬ (j : Int) < (l3 : Int) := by omega
         have HF2 : Hid (ofV no nb v = true) := Zi (by rw [HF.out, if_pos rfl, List.drop_of_length_le (by rw [HL3.out]; omega), ofVs])
         clear HF
         go_upto_region 10 with fail
         apply Zl
         refine Zw rfl (vrow (by assumption) (by assumption)) ?_
         refine Zn HCH.out ?_; rintro e w7 ⟨rfl, hb7⟩; refine ⟨_, rfl, ?_⟩; simp only [Zq]
         replace hp := below_look hb7 hp; replace hh := below_look hb7 hh; replace hbr := hbr.trans (hb7.mono hbr.size); clear hb7
         iterate 3 refine Zm ?_
         refine Zo rfl (vl (by assumption) (by assumption)) ?_
         iterate 3 refine Zm ?_
         clear HCH
         go_upto_region 14 with fail
         apply Zl
         refine Zm ?_
         go_wp2_with fail
         go_ret
         exact ⟨by rw [HF2.out]; rfl, hbr⟩
open Go.RowKit Go.Proofs.Ytpamocglecangaa.Nm
def DTkAt (w : World) (D : Nat -> Prop) (t : Tk) (row : Array Value) : Prop :=
 match t with
 | .val v => ∃ rv, VAt w D v rv /\ row = #[.bool false] ++ rv ++ #[.int .i64 0, .int .i64 0]
 | .flds o i => row = #[.bool true] ++ zrow ++ #[.int .i64 (o : Int), .int .i64 (i : Int)]
structure DTks (w : World) (D : Nat -> Prop) (ts : List Tk) (A : Option Addr) (c : Nat) : Prop where
 cap : ts.length <= c
 max : c <= maxLen
 nil : A = none -> ts = [] /\ c = 0
 el : ∀ (i : Nat) (t : Tk), ts[i]? = some t -> ∃ b off Cs ty fr row, A = some ⟨b, off, none⟩ /\ D b /\ w.heap[b]? = some (.cells Cs ty fr) /\ Cs.extract (off + i * 12) (off + i * 12 + 12) = row /\ row.size = 12 /\ DTkAt w D t row
theorem DTkAt.mono {w w' : World} {D D' : Nat -> Prop} {t : Tk} {row : Array Value} (h : DTkAt w D t row) (hD : ∀ b, D b -> D' b) (hw : ∀ b, D b -> b < w.heap.size -> w'.heap[b]? = w.heap[b]?) : DTkAt w' D' t row := by
 cases t with
 | val v => obtain ⟨rv, h1, h2⟩ := h; exact ⟨rv, h1.mono hD hw, h2⟩
 | flds o i => exact h
theorem DTks.mono {w w' : World} {D D' : Nat -> Prop} {ts : List Tk} {A : Option Addr} {c : Nat} (h : DTks w D ts A c) (hD : ∀ b, D b -> D' b) (hw : ∀ b, D b -> b < w.heap.size -> w'.heap[b]? = w.heap[b]?) : DTks w' D' ts A c where
 cap := h.cap
 max := h.max
 nil := h.nil
 el := fun i t hi => by
  obtain ⟨b, off, Cs, ty, fr, row, e1, e2, e3, e4, e5, e6⟩ := h.el i t hi
  exact ⟨b, off, Cs, ty, fr, row, e1, hD b e2, by rw [hw b e2 (heap_lt e3)]; exact e3, e4, e5, e6.mono hD hw⟩
theorem DTks.low {w : World} {D : Nat -> Prop} {ts : List Tk} {A : Option Addr} {c : Nat} (h : DTks w D ts A c) : DTks w (fun b => D b /\ b < w.heap.size) ts A c where
 cap := h.cap
 max := h.max
 nil := h.nil
 el := fun i t hi => by
  obtain ⟨b, off, Cs, ty, fr, row, e1, e2, e3, e4, e5, e6⟩ := h.el i t hi
  refine ⟨b, off, Cs, ty, fr, row, e1, ⟨e2, heap_lt e3⟩, e3, e4, e5, ?_⟩
  cases t with
  | val v => obtain ⟨rv, h1, h2⟩ := e6; exact ⟨rv, h1.low, h2⟩
  | flds o i => exact e6
theorem DTks.regh {w : World} {G G' : Gh} {ts : List Tk} {A : Option Addr} {c : Nat} (h : DTks w (Imm G) ts A c) (hG : ∀ b, b < w.heap.size -> G' b = G b) : DTks w (Imm G') ts A c :=
 h.low.mono (fun b hb => by unfold Imm; rw [hG b hb.2]; exact hb.1) fun _ _ _ => rfl
def DLev (w : World) (G : Gh) (k : Nat) (lev : List (List Tk)) (A : Option Addr) (c : Nat) : Prop :=
 ∃ rows, OwnL w 102 1 A c rows /\ rows.length = lev.length /\ RoleOf G A (k, .lar) /\ ∀ (i : Nat) (ts : List Tk) (row : Array Value), lev[i]? = some ts -> rows[i]? = some row -> ∃ tA tc, row = #[.slice tA ts.length tc] /\ DTks w (Imm G) ts tA tc
def DDei (w : World) (G : Gh) (dei : List ByteArray) (A : Option Addr) : Prop := dei.length <= maxLen /\ ∀ (j : Nat) (s : ByteArray), dei[j]? = some s -> ∃ b off, A = some ⟨b, off, none⟩ /\ G b = none /\ w.cell? ⟨b, off + j, none⟩ = some (.string s)
def DOrd (w : World) (G : Gh) (k n : Nat) (A : Option Addr) (c : Nat) : Prop := ∃ rows, OwnL w 9 1 A c rows /\ rows.length = n /\ RoleOf G A (k, .dei)
structure DAt (w : World) (G : Gh) (k p : Nat) (h : Hp) (n : Nat) (dA : Option Addr) (dc : Nat) (oA : Option Addr) (oc : Nat) (bA : Option Addr) (bc : Nat) (lA : Option Addr) (lc : Nat) (rA : Option Addr) (rc : Nat) : Prop where
 blk : w.heap[p]? = some (.cells (cellD dA h.dei.length dc oA h.obs.length oc bA h.bus.length bc lA h.lev.length lc rA n rc) 92 (0, 0))
 rp : G p = some (k, .hdr)
 obs : ObsAt w G k h.obs oA oc
 bus : BusAt w G k h.bus bA bc
 lev : DLev w G k h.lev lA lc
 dei : DDei w G h.dei dA
 ord : DOrd w G k n rA rc
section
variable {w w' : World} {G G' : Gh} {k p n : Nat} {h : Hp} {dA : Option Addr} {dc : Nat} {oA : Option Addr} {oc : Nat} {bA : Option Addr} {bc : Nat} {lA : Option Addr} {lc : Nat} {rA : Option Addr} {rc : Nat}
theorem DLev.same {lev : List (List Tk)} {A : Option Addr} {c : Nat} (hl : DLev w G k lev A c) (h1 : ∀ b, b < w.heap.size -> G b = some (k, .lar) -> w'.heap[b]? = w.heap[b]?) (h2 : ∀ b, b < w.heap.size -> G b = none -> w'.heap[b]? = w.heap[b]?) : DLev w' G k lev A c := by
 obtain ⟨rows, ho, hl, hr, hv⟩ := hl
 refine ⟨rows, ho.same fun g e hg => h1 g hg (hr g e), hl, hr, fun i ts row hi hri => ?_⟩
 obtain ⟨tA, tc, g1, g2⟩ := hv i ts row hi hri
 exact ⟨tA, tc, g1, g2.mono (fun _ h => h) fun b hb hlt => h2 b hlt hb⟩
theorem cell_look {w w' : World} {b o : Nat} {v : Value} (hw : b < w.heap.size -> w'.heap[b]? = w.heap[b]?) (hc : w.cell? ⟨b, o, none⟩ = some v) : w'.cell? ⟨b, o, none⟩ = some v := by
 have hl := block_lt_of_cell hc
 unfold World.cell? at hc ⊢
 rw [hw hl]; exact hc
theorem DDei.same {dei : List ByteArray} {A : Option Addr} (hd : DDei w G dei A) (h2 : ∀ b, b < w.heap.size -> G b = none -> w'.heap[b]? = w.heap[b]?) : DDei w' G dei A :=
 ⟨hd.1, fun j s hj => by
  obtain ⟨b, off, e1, e2, e3⟩ := hd.2 j s hj
  exact ⟨b, off, e1, e2, cell_look (fun hl => h2 b hl e2) e3⟩⟩
theorem DDei.regh {dei : List ByteArray} {A : Option Addr} (hd : DDei w G dei A) (hG : ∀ b, b < w.heap.size -> G' b = G b) : DDei w G' dei A :=
 ⟨hd.1, fun j s hj => by
  obtain ⟨b, off, e1, e2, e3⟩ := hd.2 j s hj
  exact ⟨b, off, e1, by rw [hG b (block_lt_of_cell e3)]; exact e2, e3⟩⟩
theorem DAt.same (hh : DAt w G k p h n dA dc oA oc bA bc lA lc rA rc) (h1 : ∀ b, b < w.heap.size -> Mine G k b -> w'.heap[b]? = w.heap[b]?) (h2 : ∀ b, b < w.heap.size -> G b = none -> w'.heap[b]? = w.heap[b]?) : DAt w' G k p h n dA dc oA oc bA bc lA lc rA rc where
 blk := by rw [h1 p (heap_lt hh.blk) ⟨_, hh.rp, by simp⟩]; exact hh.blk
 rp := hh.rp
 obs := hh.obs.same (fun b hb e => h1 b hb (by rcases e with e | ⟨i, e⟩ <;> exact ⟨_, e, by simp⟩)) h2
 bus := hh.bus.same (fun b hb e => h1 b hb (by rcases e with e | ⟨i, e⟩ <;> exact ⟨_, e, by simp⟩)) h2
 lev := hh.lev.same (fun b hb e => h1 b hb ⟨_, e, by simp⟩) h2
 dei := hh.dei.same h2
 ord := by
  obtain ⟨rows, ho, hl, hr⟩ := hh.ord
  exact ⟨rows, ho.same fun g e hg => h1 g hg ⟨_, hr g e, by simp⟩, hl, hr⟩
theorem DAt.old (hh : DAt w G k p h n dA dc oA oc bA bc lA lc rA rc) (hb : Below w.heap.size w w') : DAt w' G k p h n dA dc oA oc bA bc lA lc rA rc := hh.same (fun b hl _ => hb.block b hl) fun b hl _ => hb.block b hl
theorem DAt.keep {C : Nat -> Prop} (hh : DAt w G k p h n dA dc oA oc bA bc lA lc rA rc) (hk : Keep C w w') (hC : ∀ b, C b -> ¬ Mine G k b /\ G b ≠ none) : DAt w' G k p h n dA dc oA oc bA bc lA lc rA rc := hh.same (fun b hl hm => hk.block b hl fun hc => (hC b hc).1 hm) fun b hl hn => hk.block b hl fun hc => (hC b hc).2 hn
theorem DAt.regh (hh : DAt w G k p h n dA dc oA oc bA bc lA lc rA rc) (hG : ∀ b, b < w.heap.size -> G' b = G b) : DAt w G' k p h n dA dc oA oc bA bc lA lc rA rc where
 blk := hh.blk
 rp := by rw [hG p (heap_lt hh.blk)]; exact hh.rp
 obs := by
  obtain ⟨rows, ho, hl, hr, hv⟩ := hh.obs
  refine ⟨rows, ho, hl, hr.regh ho hG, fun i o row h1 h2 => ?_⟩
  obtain ⟨tr, fA, fc, g1, g2, g3⟩ := hv i o row h1 h2
  exact ⟨tr, fA, fc, g1, g2.regh hG, g3.regh hG⟩
 bus := by
  obtain ⟨rows, ho, hl, hr, hv⟩ := hh.bus
  refine ⟨rows, ho, hl, hr.regh ho hG, fun i o row h1 h2 => ?_⟩
  obtain ⟨eA, ec, g1, g2⟩ := hv i o row h1 h2
  exact ⟨eA, ec, g1, g2.regh hG⟩
 lev := by
  obtain ⟨rows, ho, hl, hr, hv⟩ := hh.lev
  refine ⟨rows, ho, hl, hr.regh ho hG, fun i ts row h1 h2 => ?_⟩
  obtain ⟨tA, tc, g1, g2⟩ := hv i ts row h1 h2
  exact ⟨tA, tc, g1, g2.regh hG⟩
 dei := hh.dei.regh hG
 ord := by
  obtain ⟨rows, ho, hl, hr⟩ := hh.ord
  exact ⟨rows, ho, hl, hr.regh ho hG⟩
end
def DHeapAt (w : World) (G : Gh) (k p : Nat) (h : Hp) (n : Nat) : Prop := ∃ dA dc oA oc bA bc lA lc rA rc, DAt w G k p h n dA dc oA oc bA bc lA lc rA rc
structure DDone (w : World) (G : Gh) (k p : Nat) (h' : Hp) (n' : Nat) (w' : World) (G' : Gh) : Prop where
 heap : DHeapAt w' G' k p h' n'
 fr : Fr w' G'
 old : ∀ b, b < w.heap.size -> G' b = G b
 new : ∀ b, w.heap.size <= b -> G' b = none ∨ ∃ r, G' b = some (k, r)
 keep : Keep (Mine G k) w w'
section
variable {w w' : World} {G G' : Gh} {k p n n' : Nat} {h h' : Hp}
theorem DDone.calm (hh : DHeapAt w G k p h n) (hf : Fr w G) (hb : Below w.heap.size w w') : DDone w G k p h n w' G := by
 obtain ⟨dA, dc, oA, oc, bA, bc, lA, lc, rA, rc, hh⟩ := hh
 exact ⟨⟨_, _, _, _, _, _, _, _, _, _, hh.old hb⟩, hf.on hb.size, fun b _ => rfl, fun b hb => .inl (hf b hb), Keep.of hb⟩
theorem DDone.trans {W : World} {G1 : Gh} {h1 : Hp} {n1 : Nat} (d : DDone w G k p h1 n1 W G1) (d2 : DDone W G1 k p h' n' w' G') : DDone w G k p h' n' w' G' where
 heap := d2.heap
 fr := d2.fr
 old := fun b hb => (d2.old b (by have := d.keep.size; omega)).trans (d.old b hb)
 new := fun b hb => by
  by_cases e : b < W.heap.size
  ·rw [d2.old b e]; exact d.new b hb
  ·exact d2.new b (by omega)
 keep := d.keep.trans (C' := Mine G1 k) (fun b hm => by
  by_cases e : b < w.heap.size
  ·unfold Mine at hm; rw [d.old b e] at hm; exact .inl hm
  ·exact .inr (by omega)) d2.keep
theorem DDone.va (d : DDone w G k p h' n' w' G') {v : Va} {row : Array Value} (hv : VAt w (Imm G) v row) : VAt w' (Imm G') v row :=
 (hv.low.mono (fun _ h => h) fun b hb hl => d.keep.block b hl (fun hm => by obtain ⟨_, e, _⟩ := hm; have := hb.1; unfold Imm at this; rw [this] at e; cases e)).weak fun b hb => by
  unfold Imm; rw [d.old b hb.2]; exact hb.1
theorem DDone.look (d : DDone w G k p h' n' w' G') {b : Nat} {o : Obj} (ho : w.heap[b]? = some o) (hn : ¬ Mine G k b) : w'.heap[b]? = some o := d.keep.look ho hn
theorem DDone.quiet (d : DDone w G k p h' n' w' G') {w2 : World} (hb : Below w'.heap.size w' w2) : DDone w G k p h' n' w2 G' := d.trans (DDone.calm d.heap d.fr hb)
end
def DDeadC (G : Gh) (k : Nat) (p : Nat) (h : Hp) (n : Nat) (v : Va) : Prop := ∀ (w : World) (D : Nat -> Prop) (row : Array Value) (dA : Option Addr) (dc : Nat) (oA : Option Addr) (oc : Nat) (bA : Option Addr) (bc : Nat) (lA : Option Addr) (lc : Nat) (rA : Option Addr) (rc : Nat), VAt w D v row -> DAt w G k p h n dA dc oA oc bA bc lA lc rA rc -> ofV h.obs.length h.bus.length v = true ->
 Calls Try.prog 86 #[.pointer (some ⟨p, 0, none⟩), .agg row] w fun e w' => e = .returned (.bool (deadV h v)) /\ Below w.heap.size w w'
end Go.Proofs.Ytpamocglecangaa
