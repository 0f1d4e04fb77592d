/- S2, S3 in one text. -/
import Derived.Test.YtbhdgeoljlhmcaaS1
import Derived.Outline
import Derived.IntWalk
import Derived.Test.YtbhdgeoljlhmcaaT4
import Derived.Deep.MidRow
/- The hash of a key, the program's and the document's. -/
namespace Go.Proofs.Ytbhdgeoljlhmcaa
open Go.RowKit Go.Proofs.Ytbhdgeoljlhmcaa.Nm
def hst (h : Int) (c : UInt8) : Int := bits .xor .u32 h ((c.toNat : Int) % 4294967296) * 16777619 % 4294967296
def hs0 (seed : Int) : Int := (2166136261 + seed % 4294967296) % 4294967296
theorem bits32 (op : BinOp) (x y : Int) : 0 ≤ bits op .u32 x y ∧ bits op .u32 x y < 4294967296 := by
  unfold bits IntKind.wrap
  simp only [IntKind.signed, IntKind.bits]
  constructor
  · exact Int.emod_nonneg _ (by decide)
  · exact Int.emod_lt_of_pos _ (by decide)
def hashI (h : Int) : Int := bits .xor .u32 h (h / 32768)
/-- the hash of a key -/
def hashN (l : List UInt8) (seed : Int) : Nat := (hashI (l.foldl hst (hs0 seed))).toNat
theorem hashN_cast (l : List UInt8) (seed : Int) : ((hashN l seed : Nat) : Int) = hashI (l.foldl hst (hs0 seed)) := Int.toNat_of_nonneg (bits32 _ _ _).1
theorem hashN_lt (l : List UInt8) (seed : Int) : hashN l seed < 4294967296 := by
  have h := hashN_cast l seed
  have h2 := (bits32 .xor (l.foldl hst (hs0 seed)) (l.foldl hst (hs0 seed) / 32768)).2
  unfold hashI at h; omega
theorem hashI_wrap (h : Int) : wrap64 (hashI h) = hashI h := by
  have := bits32 .xor h (h / 32768)
  exact IntWalk.wrap64_in (hashI h) (by unfold hashI; omega)
theorem ret_int {k : IntKind} {a b : Int} (h : a = b) : Ending.returned (.int k a) = .returned (.int k b) := by rw [h]
theorem take_snoc (s : ByteArray) (k : Nat) (h : k < s.size) : s.data.toList.take (k + 1) = s.data.toList.take k ++ [s[k]] := by
  rw [List.take_succ_eq_append_getElem (by simpa using h)]; rfl
set_option maxHeartbeats 400000 in
theorem Hash_any (m : ByteArray) (hm : m.size ≤ 1000000000) (seed : Int) (w : World) :
    Calls Try.prog 35 #[.string m, .int .i64 seed] w fun e w' => e = .returned (.int .i64 ((hashN m.data.toList seed : Nat) : Int)) ∧ w = w' := by
  have HH := Lib.hid (hashN_cast m.data.toList seed)
  go_enter Try.func35, Try.ntmps35
  go_wp2_with fail
  go_loop [5, 12] (fun h i => ∃ (k : Nat), k ≤ m.size ∧ i = .int .i64 (k : Int) ∧ h = .int .u32 ((m.data.toList.take k).foldl hst (hs0 seed))) (fun _ i => (m.size - intOf i).toNat)
  case atStart => exact ⟨0, by omega, rfl, rfl⟩
  case round =>
    obtain ⟨k, hk, rfl, rfl⟩ := hrel
    by_cases hlt : k < m.size
    · have HT := Lib.hid (take_snoc m k hlt)
      generalize hz : (m.data.toList.take k).foldl hst (hs0 seed) = z
      have HZ := Lib.hid hz
      clear hz
      go_wp2_with fail
      go_round
      case rel => exact ⟨k + 1, by omega, by go_num, by rw [HT.out, List.foldl_append, HZ.out]; rfl⟩
      case measure => simp [intOf]; omega
    · obtain rfl : k = m.size := by omega
      rw [show m.data.toList.take m.size = m.data.toList from List.take_of_length_le (by simp)]
      generalize hz : m.data.toList.foldl hst (hs0 seed) = z
      rw [hz] at HH
      clear hz
      go_wp2_with fail
      go_ret
      exact ⟨ret_int (by rw [HH.out]; exact hashI_wrap z), rfl⟩
set_option maxHeartbeats 400000 in
theorem HashI_any (m : ByteArray) (hm : m.size ≤ 1000000000) (seed : Int) (w : World) :
    Calls Try.prog 36 #[.string m, .int .i64 seed] w fun e w' => e = .returned (.int .i64 ((hashN m.data.toList seed : Nat) : Int)) ∧ w = w' := by
  have HH := Lib.hid (hashN_cast m.data.toList seed)
  go_enter Try.func36, Try.ntmps36
  go_wp2_with fail
  go_loop [5, 6] (fun h i => ∃ (k : Nat), k ≤ m.size ∧ i = .int .i64 (k : Int) ∧ h = .int .u32 ((m.data.toList.take k).foldl hst (hs0 seed))) (fun _ i => (m.size - intOf i).toNat)
  case atStart => exact ⟨0, by omega, rfl, rfl⟩
  case round =>
    obtain ⟨k, hk, rfl, rfl⟩ := hrel
    by_cases hlt : k < m.size
    · have HT := Lib.hid (take_snoc m k hlt)
      generalize hz : (m.data.toList.take k).foldl hst (hs0 seed) = z
      have HZ := Lib.hid hz
      clear hz
      go_wp2_with fail
      go_round
      case rel => exact ⟨k + 1, by omega, by go_num, by rw [HT.out, List.foldl_append, HZ.out]; rfl⟩
      case measure => simp [intOf]; omega
    · obtain rfl : k = m.size := by omega
      rw [show m.data.toList.take m.size = m.data.toList from List.take_of_length_le (by simp)]
      generalize hz : m.data.toList.foldl hst (hs0 seed) = z
      rw [hz] at HH
      clear hz
      go_wp2_with fail
      go_ret
      exact ⟨ret_int (by rw [HH.out]; exact hashI_wrap z), rfl⟩
end Go.Proofs.Ytbhdgeoljlhmcaa
/- Tables in memory; an entry laid, by the program. -/
namespace Go.Proofs.Ytbhdgeoljlhmcaa
open Go.RowKit Go.Proofs.Ytbhdgeoljlhmcaa.Nm Go.Proofs.Ytbhdgeoljlhmcaa.St
set_option linter.unusedSimpArgs false
theorem u9 : Try.prog.underlying 9 = some .string := by kernel_rfl
theorem u85 : Try.prog.underlying 85 = some (.slice 95) := by kernel_rfl
theorem u29 : Try.prog.underlying 29 = some (.slice 9) := by kernel_rfl
theorem u91 : Try.prog.underlying 91 = some (.struct (Try.prog.fieldsOf 91)) := by kernel_rfl
theorem u95 : Try.prog.underlying 95 = some (.struct (Try.prog.fieldsOf 95)) := by kernel_rfl
theorem info91 : (Try.prog.info? 91).map (·.size) = some 2 := by kernel_rfl
theorem info95 : (Try.prog.info? 95).map (·.size) = some 3 := by kernel_rfl
theorem one3 {w : World} {ad : Addr} {v : Value} (h : w.cell? ad = some v) : OneAt w 3 ad v := one_of u3 rfl h
theorem one4 {w : World} {ad : Addr} {v : Value} (h : w.cell? ad = some v) : OneAt w 4 ad v := one_of u4 rfl h
theorem one9 {w : World} {ad : Addr} {v : Value} (h : w.cell? ad = some v) : OneAt w 9 ad v := one_of u9 rfl h
theorem one85 {w : World} {ad : Addr} {v : Value} (h : w.cell? ad = some v) : OneAt w 85 ad v := one_of u85 rfl h
theorem one29 {w : World} {ad : Addr} {v : Value} (h : w.cell? ad = some v) : OneAt w 29 ad v := one_of u29 rfl h
/-- an entry's cells -/
def eb (o : Option (ByteArray × Int)) : Bool := o.isSome
def ek (o : Option (ByteArray × Int)) : ByteArray := match o with | none => ⟨#[]⟩ | some (k, _) => k
def ev (o : Option (ByteArray × Int)) : Int := match o with | none => 0 | some (_, v) => v
def ecells (o : Option (ByteArray × Int)) : Array Value := #[.bool (eb o), .string (ek o), .int .i64 (ev o)]
theorem ecells_one (o : Option (ByteArray × Int)) : (ecells o).all (·.oneCell') = true := by simp [ecells, Value.oneCell']
/-- a table lies in block p -/
def PlAt (w : World) (p cap : Nat) (t : Tab) : Prop := ∃ cur, w.heap[p]? = some (.cells cur 95 (0, 0)) ∧ cur.size = cap * 3 ∧ t.length ≤ cap ∧
  ∀ i, i < t.length → cur[i * 3]? = some (.bool (eb (pl t i))) ∧ cur[i * 3 + 1]? = some (.string (ek (pl t i))) ∧ cur[i * 3 + 2]? = some (.int .i64 (ev (pl t i)))
theorem PlAt.lt {w : World} {p cap : Nat} {t : Tab} (h : PlAt w p cap t) : p < w.heap.size := by obtain ⟨_, h, _⟩ := h; exact heap_lt h
theorem PlAt.look {w w' : World} {p cap : Nat} {t : Tab} (h : PlAt w p cap t) (hp : w'.heap[p]? = w.heap[p]?) : PlAt w' p cap t := by
  obtain ⟨cur, h1, h2⟩ := h; exact ⟨cur, by rw [hp]; exact h1, h2⟩
theorem PlAt.below {w w' : World} {p cap : Nat} {t : Tab} (h : PlAt w p cap t) (hb : Below w.heap.size w w') : PlAt w' p cap t := h.look (hb.block p h.lt)
theorem PlAt.cell {w : World} {p cap i : Nat} {t : Tab} (h : PlAt w p cap t) (hi : i < t.length) :
    w.cell? ⟨p, i * 3, none⟩ = some (.bool (eb (pl t i))) ∧ w.cell? ⟨p, i * 3 + 1, none⟩ = some (.string (ek (pl t i))) ∧ w.cell? ⟨p, i * 3 + 2, none⟩ = some (.int .i64 (ev (pl t i))) := by
  obtain ⟨cur, h1, _, _, h2⟩ := h
  rw [cell_of_row _ _ _ _ _ _ h1, cell_of_row _ _ _ _ _ _ h1, cell_of_row _ _ _ _ _ _ h1]
  exact h2 i hi
theorem PlAt.there {w : World} {p cap i : Nat} {t : Tab} (h : PlAt w p cap t) (hi : i < t.length) : w.there p (i * 3) 3 := by
  obtain ⟨cur, h1, h2, h3, _⟩ := h
  intro j hj
  rw [cell_of_row _ _ _ _ _ _ h1, frozen_of_row _ _ _ _ _ h1, Array.getElem?_eq_getElem (by omega)]
  exact ⟨rfl, rfl⟩
theorem PlAt.set {w : World} {p cap i : Nat} {t : Tab} (h : PlAt w p cap t) (hi : i < t.length) (o : Option (ByteArray × Int)) :
    PlAt (w.setCells p (i * 3) (ecells o).toList) p cap (t.set i o) := by
  obtain ⟨cur, h1, h2, h3, h4⟩ := h
  refine ⟨((cur.setIfInBounds (i * 3) (.bool (eb o))).setIfInBounds (i * 3 + 1) (.string (ek o))).setIfInBounds (i * 3 + 1 + 1) (.int .i64 (ev o)), hs_new (hs_new (hs_new h1)), by simpa using h2, by simpa using h3, fun j hj => ?_⟩
  simp only [List.length_set] at hj
  rw [pl_set hi hj]
  by_cases e : j = i
  · subst e
    rw [if_pos rfl]
    refine ⟨?_, ?_, ?_⟩
    · rw [Array.getElem?_setIfInBounds_ne (by omega), Array.getElem?_setIfInBounds_ne (by omega), Array.getElem?_setIfInBounds_self_of_lt (by omega)]
    · rw [Array.getElem?_setIfInBounds_ne (by omega), Array.getElem?_setIfInBounds_self_of_lt (by simp; omega)]
    · rw [Array.getElem?_setIfInBounds_self_of_lt (by simp; omega)]
  · rw [if_neg e]
    obtain ⟨a, b, c⟩ := h4 j hj
    refine ⟨?_, ?_, ?_⟩
    · rw [Array.getElem?_setIfInBounds_ne (by omega), Array.getElem?_setIfInBounds_ne (by omega), Array.getElem?_setIfInBounds_ne (by omega)]; exact a
    · rw [Array.getElem?_setIfInBounds_ne (by omega), Array.getElem?_setIfInBounds_ne (by omega), Array.getElem?_setIfInBounds_ne (by omega)]; exact b
    · rw [Array.getElem?_setIfInBounds_ne (by omega), Array.getElem?_setIfInBounds_ne (by omega), Array.getElem?_setIfInBounds_ne (by omega)]; exact c
theorem Nm.Kept.setCells {D : List Nat} {p : Nat} {W : World} (hm : p ∈ D) : ∀ (vs : List Value) (o : Nat) (w : World), Kept D W w → Kept D W (w.setCells p o vs)
  | [], _, _, h => h
  | v :: vs, o, _, h => Kept.setCells hm vs (o + 1) _ (h.setCell hm o v)
theorem Nm.Kept.refl (D : List Nat) (W : World) : Kept D W W := ⟨Nat.le_refl _, fun _ _ _ => rfl, rfl, rfl, rfl⟩
theorem Nm.Kept.trans {D : List Nat} {W w w' : World} (h : Kept D W w) (h2 : Kept D w w') : Kept D W w' :=
  ⟨Nat.le_trans h.1 h2.1, fun k hk hp => by rw [h2.2 k (by have := h.1; omega) hp]; exact h.2 k hk hp, h2.os.trans h.os, h2.tape.trans h.tape, h2.output.trans h.output⟩
theorem Nm.Kept.mono {D D' : List Nat} {W w : World} (h : Kept D W w) (hd : ∀ k, k < W.heap.size → k ∈ D → k ∈ D') : Kept D' W w :=
  ⟨h.1, fun k hk hp => h.2 k hk (fun hm => hp (hd k hk hm)), h.os, h.tape, h.output⟩
section
variable {P : Program} {ops : Array Oper} {Q : Exit → Act → World → Prop} {md : Region.Mode} {S : World → Prop} {i : Nat} {oi : Oper} {fuel : Nat} {listed : Array Bool} {a : Act} {w : World}
/-- A struct stored into the middle of a block. -/
theorem ha_storeM (hr : Region.ready md ops listed = [i]) (ho : ops[i]? = some oi) (hg : Region.wanted oi (yielded ops a.tmps) = true) (ty : TypeId) (x y : Operand) (hop : oi.op = .store ty x y) (b o : Nat) (cells : Array Value)
    (hx : a.eval x = .pointer (some ⟨b, o, none⟩)) (hy : a.eval y = .agg cells) (ht : w.there b o cells.size) (hi : (P.info? ty).map (·.size) = some cells.size) (h1 : cells.all (·.oneCell') = true) (hS : S (w.setCells b o cells.toList))
    (h : S (w.setCells b o cells.toList) → wpAnyH P md ops Q S fuel (listed.setIfInBounds i true) (a.put oi.dst undef) (w.setCells b o cells.toList)) : wpAnyH P md ops Q S (fuel + 1) listed a w := by
  refine wpAnyH_ready (rs := [i]) hr (by simp) (AllReadyH.cons ho (fun K hK => ?_) AllReadyH.nil)
  rw [if_pos hg]
  exact wp_store_mid ty x y hop b o cells hx hy ht hi h1 (hK.out _ _ hS h)
end
def HH (seed : Int) (k : ByteArray) : Nat := hashN k.data.toList seed
theorem Hash_b (m : ByteArray) (hm : m.size ≤ 1000000000) (seed : Int) (w : World) :
    Calls Try.prog 35 #[.string m, .int .i64 seed] w fun e w' => e = .returned (.int .i64 ((HH seed m : Nat) : Int)) ∧ Below w.heap.size w w' :=
  (Hash_any m hm seed w).mono fun _ _ ⟨h1, h2⟩ => ⟨h1, h2 ▸ Below.refl _ _⟩
theorem far_mod (t : Tab) (p : Option (ByteArray × Int) → Bool) (i f : Nat) : far t p (i % t.length) f = far t p i f := by
  induction f generalizing i with
  | zero => rfl
  | succ f ih =>
    simp only [far]
    rw [pl_mod, ← ih (i % t.length + 1), Nat.mod_add_mod, ih (i + 1)]
theorem far_next {t : Tab} {p : Option (ByteArray × Int) → Bool} {i : Nat} (h : p (pl t i) = false) (hg : ∃ d, d < t.length ∧ p (pl t (i + d)) = true) : far t p i t.length = far t p (i + 1) t.length + 1 := by
  obtain ⟨d, hd, hp⟩ := hg
  have h1 := far_at hd hp
  have hb := far_before (t := t) (p := p) (i := i) (f := t.length)
  rcases Nat.eq_zero_or_pos (far t p i t.length) with h0 | h0
  · rw [h0, Nat.add_zero] at h1; rw [h] at h1; exact absurd h1.2 (by simp)
  · have := far_eq (t := t) (p := p) (i := i + 1) (f := t.length) (d := far t p i t.length - 1) (by omega) (by rw [show i + 1 + (far t p i t.length - 1) = i + far t p i t.length by omega]; exact h1.2) (fun e he => by
      have := hb (e + 1) (by omega)
      rwa [show i + (e + 1) = i + 1 + e by omega] at this)
    omega
/-- a buffer's block -/
def bcells (kd : Int) (lv : Value) (seed cnt : Int) (pv : Value) : Array Value := #[.int .i64 kd, lv, .int .i64 seed, .int .i64 cnt, pv]
theorem bc_cell {w : World} {g : Nat} {kd seed cnt : Int} {lv pv : Value} (h : w.heap[g]? = some (.cells (bcells kd lv seed cnt pv) 87 (0, 0))) :
    w.cell? ⟨g, 0, none⟩ = some (.int .i64 kd) ∧ w.cell? ⟨g, 1, none⟩ = some lv ∧ w.cell? ⟨g, 2, none⟩ = some (.int .i64 seed) ∧ w.cell? ⟨g, 3, none⟩ = some (.int .i64 cnt) ∧ w.cell? ⟨g, 4, none⟩ = some pv := by
  rw [cell_of_row _ _ _ _ _ _ h, cell_of_row _ _ _ _ _ _ h, cell_of_row _ _ _ _ _ _ h, cell_of_row _ _ _ _ _ _ h, cell_of_row _ _ _ _ _ _ h]
  exact ⟨rfl, rfl, rfl, rfl, rfl⟩
def pair (k : ByteArray) (v : Int) : Array Value := #[.string k, .int .i64 v]
theorem rowPair {w : World} {b : Nat} {k : ByteArray} {v : Int} {t : TypeId} {fr : Nat × Nat} (hb : w.heap[b]? = some (.cells (pair k v) t fr)) : RowAt w 91 ⟨b, 0, none⟩ (pair k v) := row_mid hb (D := pair k v) (n := 2) rfl u91 rfl rfl info91
theorem pair0 {w : World} {b : Nat} {k : ByteArray} {v : Int} {t : TypeId} {fr : Nat × Nat} (hb : w.heap[b]? = some (.cells (pair k v) t fr)) : w.cell? ⟨b, 0, none⟩ = some (.string k) := by rw [cell_of_row _ _ _ _ _ _ hb]; rfl
theorem tmod_nat (a b : Nat) : (a : Int).tmod (b : Int) = ((a % b : Nat) : Int) := by rw [Int.natCast_emod]; exact Int.tmod_eq_emod_of_nonneg (by omega)
theorem emod_nat (a b : Nat) : (a : Int) % (b : Int) = ((a % b : Nat) : Int) := (Int.natCast_emod a b).symm
theorem built95 (k : ByteArray) (v : Int) : Try.prog.built 95 [(0, .bool true), (1, .agg (pair k v))] = some (ecells (some (k, v))) := by kernel_rfl
set_option maxHeartbeats 2000000 in
set_option maxRecDepth 100000 in
theorem put_any (g p cap : Nat) (t : Tab) (kd seed cnt : Int) (lv : Value) (k : ByteArray) (v : Int) (hk : k.size ≤ 1000000000) (hn : 1 ≤ t.length) (hn2 : t.length ≤ 1000000) (hg : ∃ i, i < t.length ∧ occ t i = false) (w : World)
    (h0 : w.heap[g]? = some (.cells (bcells kd lv seed cnt (.slice (some ⟨p, 0, none⟩) t.length cap)) 87 (0, 0))) (hp : PlAt w p cap t) (hgp : g ≠ p) :
    Calls Try.prog 79 #[.pointer (some ⟨g, 0, none⟩), .agg (pair k v)] w fun e w' => e = .returned (.tuple #[]) ∧ PlAt w' p cap (layT (HH seed) t k v) ∧ Kept [p] w w' := by
  have HP := Lib.hid hp
  have HG := Lib.hid hg
  have LP := hp.lt
  have LG := heap_lt h0
  clear hp hg
  go_enter Try.func79, Try.ntmps79
  go_upto_region 1 with (fail)
  refine wp_world (fun W => W.heap[g]? = some (.cells (bcells kd lv seed cnt (.slice (some ⟨p, 0, none⟩) t.length cap)) 87 (0, 0)) ∧ W.heap[w.heap.size]? = some (.cells (pair k v) 91 (0, 0)) ∧ Hid (PlAt W p cap t) ∧ Kept [p] w W ∧ w.heap.size < W.heap.size) ⟨ha_old h0, ha_new rfl, Lib.hid (HP.out.below ((Below.refl _ _).alloc (Nat.le_refl _) _)), (Kept.refl _ _).below ((Below.refl _ _).alloc (Nat.le_refl _) _), by simp⟩ ?_
  clear h0 HP
  rintro W ⟨h0, h3, HP, HK, LW⟩
  have b2 := (bc_cell h0).2.2.1
  have b4 := (bc_cell h0).2.2.2.2
  have p0 := pair0 h3
  replace HP := Lib.hid (HP.out.below (Below.refl _ W).drew)
  refine wp_region_held_drew (S := Kept [p] W) mixed (Kept.drew [p] W) (fun hS => ?_)
  refine ha_k (i := 0) rfl (by kernel_rfl) (by kernel_rfl) (by kernel_rfl) (fun _ _ _ _ h => h) hS rfl (fun K hK => ?_); go_simp; refine hK _ ?_; clear hK K; try simp only [put_lit, List.set_cons_zero, List.set_cons_succ]
  refine ha_val (i := 1) rfl (by kernel_rfl) (by kernel_rfl) (by kernel_rfl) (fun _ _ _ h => h) hS rfl (fun w' hw' => ex_one rfl (one9 (hw'.cell p0 (by simp <;> omega)))) ?_; try simp only [put_lit, List.set_cons_zero, List.set_cons_succ]
  refine ha_k (i := 2) rfl (by kernel_rfl) (by kernel_rfl) (by kernel_rfl) (fun _ _ _ _ h => h) hS rfl (fun K hK => ?_); go_simp; refine hK _ ?_; clear hK K; try simp only [put_lit, List.set_cons_zero, List.set_cons_succ]
  refine ha_k (i := 3) rfl (by kernel_rfl) (by kernel_rfl) (by kernel_rfl) (fun _ _ _ _ h => h) hS rfl (fun K hK => ?_); go_simp; refine hK _ ?_; clear hK K; try simp only [put_lit, List.set_cons_zero, List.set_cons_succ]
  refine ha_k (i := 4) rfl (by kernel_rfl) (by kernel_rfl) (by kernel_rfl) (fun _ _ _ _ h => h) hS rfl (fun K hK => ?_); go_simp; refine hK _ ?_; clear hK K; try simp only [put_lit, List.set_cons_zero, List.set_cons_succ]
  refine ha_val (i := 5) rfl (by kernel_rfl) (by kernel_rfl) (by kernel_rfl) (fun _ _ _ h => h) hS rfl (fun w' hw' => ex_one rfl (one3 (hw'.cell b2 (by simp <;> omega)))) ?_; try simp only [put_lit, List.set_cons_zero, List.set_cons_succ]
  refine ha_k (i := 7) rfl (by kernel_rfl) (by kernel_rfl) (by kernel_rfl) (fun _ _ _ _ h => h) hS rfl (fun K hK => ?_); go_simp; refine hK _ ?_; clear hK K; try simp only [put_lit, List.set_cons_zero, List.set_cons_succ]
  refine ha_k (i := 8) rfl (by kernel_rfl) (by kernel_rfl) (by kernel_rfl) (fun _ _ _ _ h => h) hS rfl (fun K hK => ?_); go_simp; refine hK _ ?_; clear hK K; try simp only [put_lit, List.set_cons_zero, List.set_cons_succ]
  refine ha_k (i := 9) rfl (by kernel_rfl) (by kernel_rfl) (by kernel_rfl) (fun _ _ _ _ h => h) hS rfl (fun K hK => ?_); go_simp; refine hK _ ?_; clear hK K; try simp only [put_lit, List.set_cons_zero, List.set_cons_succ]
  refine ha_val (i := 10) rfl (by kernel_rfl) (by kernel_rfl) (by kernel_rfl) (fun _ _ _ h => h) hS rfl (fun w' hw' => ex_one rfl (one85 (hw'.cell b4 (by simp <;> omega)))) ?_; try simp only [put_lit, List.set_cons_zero, List.set_cons_succ]
  refine ha_k (i := 11) rfl (by kernel_rfl) (by kernel_rfl) (by kernel_rfl) (fun _ _ _ _ h => h) hS rfl (fun K hK => ?_); go_simp; refine hK _ ?_; clear hK K; try simp only [put_lit, List.set_cons_zero, List.set_cons_succ]
  have hmod := Lib.hid (tmod_nat (HH seed k) t.length)
  have hne : ¬ t = [] := fun e => by rw [e] at hn; simp at hn
  refine ha_call (i := 6) (by kernel_rfl) rfl rfl (fun K hK => ?_); go_simp; refine ⟨_, _, ⟨rfl, rfl⟩, hK _ _ ⟨_, Hash_b k hk seed _, ?_⟩⟩; clear hK K; rintro e w1 ⟨rfl, hb1⟩; refine ⟨_, rfl, hS.below hb1, ?_⟩; replace hS := hS.below hb1; (replace h0 := below_look hb1 h0; replace h3 := below_look hb1 h3; replace HP := Lib.hid (HP.out.below hb1); clear hb1); try simp only [put_lit, List.set_cons_zero, List.set_cons_succ]
  refine ha_k (i := 12) rfl (by kernel_rfl) (by kernel_rfl) (by kernel_rfl) (fun _ _ _ _ h => h) hS rfl (fun K hK => ?_); go_simp; refine hK _ ?_; clear hK K; try simp only [put_lit, List.set_cons_zero, List.set_cons_succ]
  refine ha_k (i := 13) rfl (by kernel_rfl) (by kernel_rfl) (by kernel_rfl) (fun _ _ _ _ h => h) hS rfl (fun K hK => ?_); go_simp; refine hK _ ?_; clear hK K; try simp only [put_lit, List.set_cons_zero, List.set_cons_succ]
  refine wpAnyH_done (by kernel_rfl) ?_ _
  replace HK := HK.trans hS
  clear hS b2 b4 p0
  rw [hmod.out]
  have hj0 : HH seed k % t.length < t.length := Nat.mod_lt _ (by omega)
  have HT : Hid ((HH seed k % t.length + far t free (HH seed k % t.length) t.length) % t.length = slot (HH seed) t k) := Lib.hid (by rw [far_mod, Nat.mod_add_mod]; rfl)
  generalize HH seed k % t.length = j0 at hj0 HT
  clear hmod
  go_wp2_with fail
  go_loop [4] (fun v => ∃ j : Nat, j < t.length ∧ v = .int .i64 (j : Int) ∧ Hid ((j + far t free j t.length) % t.length = slot (HH seed) t k)) (fun v => far t free (intOf v).toNat t.length)
  case atStart => exact ⟨j0, hj0, rfl, HT⟩
  case round =>
    clear HT hj0
    obtain ⟨j, hj, rfl, HT⟩ := hrel
    have b4 := (bc_cell h0).2.2.2.2
    have cu := (HP.out.cell hj).1
    have hgap : ∃ d, d < t.length ∧ free (pl t (j + d)) = true := by
      obtain ⟨x, hx, hxo⟩ := HG.out
      obtain ⟨d, hd, hdx⟩ := off_of j hx
      refine ⟨d, hd, ?_⟩
      rw [← pl_mod, hdx, free_iff]; unfold occ at hxo; simpa using hxo
    cases hu : eb (pl t j)
    · rw [hu] at cu
      have hfj : free (pl t j) = true := by rw [free_iff]; unfold eb at hu; simpa using hu
      have h0f : far t free j t.length = 0 := Nat.le_zero.1 (far_at (t := t) (p := free) (i := j) (f := t.length) (d := 0) (by omega) (by simpa using hfj)).1
      have hsl : j = slot (HH seed) t k := by
        have := HT.out
        rwa [h0f, Nat.add_zero, Nat.mod_eq_of_lt hj] at this
      have HSL := Lib.hid hsl
      clear h0f hfj hu hgap hsl HT
      go_upto_region 4 with (fail)
      replace HP := Lib.hid (HP.out.below (Below.refl _ w1).drew)
      refine wp_region_held_drew (S := Kept [p] w1) mixed (Kept.drew [p] w1) (fun hS => ?_)
      refine ha_k (i := 0) rfl (by kernel_rfl) (by kernel_rfl) (by kernel_rfl) (fun _ _ _ _ h => h) hS rfl (fun K hK => ?_); go_simp; refine hK _ ?_; clear hK K; try simp only [put_lit, List.set_cons_zero, List.set_cons_succ]
      refine ha_k (i := 1) rfl (by kernel_rfl) (by kernel_rfl) (by kernel_rfl) (fun _ _ _ _ h => h) hS rfl (fun K hK => ?_); go_simp; refine hK _ ?_; clear hK K; try simp only [put_lit, List.set_cons_zero, List.set_cons_succ]
      refine ha_k (i := 2) rfl (by kernel_rfl) (by kernel_rfl) (by kernel_rfl) (fun _ _ _ _ h => h) hS rfl (fun K hK => ?_); go_simp; refine hK _ ?_; clear hK K; try simp only [put_lit, List.set_cons_zero, List.set_cons_succ]
      refine ha_val (i := 3) rfl (by kernel_rfl) (by kernel_rfl) (by kernel_rfl) (fun _ _ _ h => h) hS rfl (fun w' hw' => ex_one rfl (one85 (hw'.cell b4 (by simp <;> omega)))) ?_; try simp only [put_lit, List.set_cons_zero, List.set_cons_succ]
      refine ha_k (i := 4) rfl (by kernel_rfl) (by kernel_rfl) (by kernel_rfl) (fun _ _ _ _ h => h) hS rfl (fun K hK => ?_); go_simp; refine hK _ ?_; clear hK K; try simp only [put_lit, List.set_cons_zero, List.set_cons_succ]
      refine ha_val (i := 5) rfl (by kernel_rfl) (by kernel_rfl) (by kernel_rfl) (fun _ _ _ h => h) hS rfl (fun w' hw' => ex_row rfl (rowPair (hw'.look h3 (by simp <;> omega)))) ?_; try simp only [put_lit, List.set_cons_zero, List.set_cons_succ]
      refine ha_val (i := 6) rfl (by kernel_rfl) (by kernel_rfl) (by kernel_rfl) (fun _ _ _ h => h) hS rfl (fun w' _ => ex_build 95 _ rfl (L := [(0, .bool true), (1, .agg (pair k v))]) rfl (built95 k v)) ?_; try simp only [put_lit, List.set_cons_zero, List.set_cons_succ]
      refine ha_k (i := 7) rfl (by kernel_rfl) (by kernel_rfl) (by kernel_rfl) (fun _ _ _ _ h => h) hS rfl (fun K hK => ?_); go_simp; refine hK _ ?_; clear hK K; try simp only [put_lit, List.set_cons_zero, List.set_cons_succ]
      refine ha_storeM (i := 8) (by kernel_rfl) rfl rfl 95 _ _ rfl p (j * 3) (ecells (some (k, v))) rfl rfl (HP.out.there hj) info95 (ecells_one _) (Nm.Kept.setCells (by simp) _ _ _ hS) (fun hS => ?_); try simp only [put_lit, List.set_cons_zero, List.set_cons_succ]
      refine wpAnyH_done (by kernel_rfl) ?_ _
      have hfin := HP.out.set hj (some (k, v))
      have hHK := HK.trans hS
      clear HP HK hS
      have HF := Lib.hid (And.intro hfin hHK)
      clear hfin hHK
      go_wp2_with fail
      go_end0
      exact ⟨rfl, by unfold layT; rw [← HSL.out]; exact HF.out.1, HF.out.2⟩

    · rw [hu] at cu
      have hmod : ((j : Int) + 1) % (t.length : Int) = (((j + 1) % t.length : Nat) : Int) := by rw [← emod_nat]; simp
      have HM := Lib.hid hmod
      have hfj : free (pl t j) = false := by rw [free_not]; exact hu
      have HN := Lib.hid (far_next hfj hgap)
      clear hmod hfj hu hgap
      go_wp2_with fail
      go_round
      case rel => exact ⟨(j + 1) % t.length, Nat.mod_lt _ (by omega), by rw [HM.out], Lib.hid (by rw [far_mod, Nat.mod_add_mod, ← HT.out, HN.out]; congr 1; omega)⟩
      case measure =>
        show far t free (intOf (.int .i64 (((j : Int) + 1) % _))).toNat _ < far t free (intOf (.int .i64 (j : Int))).toNat _
        rw [HM.out]
        simp only [intOf, Int.toNat_natCast]
        rw [far_mod, HN.out]; omega
end Go.Proofs.Ytbhdgeoljlhmcaa
