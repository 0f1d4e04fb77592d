/- The program's Params: the names of a tree, sorted, each one once. -/
import Derived.Test.YtokmaehefenpmaaDoorS6
namespace Go.Proofs.YtokmaehefenpmaaDoor
open Go.RowKit Go.Proofs.YtokmaehefenpmaaDoor.Nm
set_option linter.unusedSimpArgs false
theorem info25 : (Tryd.prog.info? 25).map (·.size) = some 1 := by kernel_rfl
theorem ex_alloc25 {o : Oper} (ho : o.op = .alloc 25) (ev : Operand → Value) (w : World) : (execOp ev o).run Tryd.prog w = .ok (.value (.pointer (some ⟨w.heap.size, 0, none⟩))) (w.alloc (.cells #[.slice none 0 0] 25)) := by
  unfold execOp
  simp only [ho]
  kernel_rfl
theorem ent67 : Enters Tryd.prog 67 := enters_of Tryd.func67 (by kernel_rfl) rfl
/-- What is collected at a node. -/
def stepP (t : Ty) (ns : List ByteArray) : Bool × List ByteArray := (true, if t.kind = 7 then ns ++ [t.name] else ns)
theorem Keep.gro {C : Nat → Prop} {v v' : Value} {w w' : World} (h : Gro v w v' w') (hC : ∀ b, v.ownBlock = some b → C b) : Keep C w w' :=
  have hb := h.bel 0 w (fun _ _ => Nat.zero_le _) (Nat.zero_le _) (Below.refl _ _)
  ⟨hb.os, hb.tape, hb.output, hb.size, fun b hlt hn => h.keep b hlt fun e => hn (hC b e)⟩
theorem Below.keep {C : Nat → Prop} {w w1 w2 : World} (h : Below w.heap.size w w1) (hk : Keep C w1 w2) (hC : ∀ b, C b → w.heap.size ≤ b) : Below w.heap.size w w2 :=
  ⟨hk.os.trans h.os, hk.tape.trans h.tape, hk.output.trans h.output, Nat.le_trans h.size hk.size, fun b hb => (hk.block b (Nat.lt_of_lt_of_le hb h.size) (fun hc => by have := hC b hc; omega)).trans (h.block b hb)⟩
set_option maxHeartbeats 2000000 in
set_option maxRecDepth 100000 in
theorem params1_any (z B : Nat) (t : Ty) (w : World) (A : Option Addr) (l c : Nat) (ns : List ByteArray) (C : Nat → Prop) (hz : w.heap[z]? = some (.cells #[.slice A l c] 25 (0, 0))) (ho : OwnS w B (.slice A l c) ns) (hzB : z < B) (hB : B ≤ w.heap.size) (hn : ns.length ≤ 1000) (hCz : C z) (hCo : ∀ b, (Value.slice A l c).ownBlock = some b → C b) (D : Nat → Prop) (row : Array Value) (h : TyAt w D t row) :
    Calls Tryd.prog 67 #[.agg row, .pointer (some ⟨z, 0, none⟩)] w fun e w' => e = .returned (.bool true) ∧ ∃ A' l' c', w'.heap[z]? = some (.cells #[.slice A' l' c'] 25 (0, 0)) ∧ OwnS w' B (.slice A' l' c') (stepP t ns).2 ∧ Keep C w w' ∧ ∀ b, (Value.slice A' l' c').ownBlock = some b → C b ∨ w.heap.size ≤ b := by
  obtain ⟨k, s, n, A1, l1, c1, ts, he, rfl, -⟩ := h.parts
  have HO := Lib.hid ho
  have HCO := Lib.hid hCo
  have HLT := Lib.hid ho.lt
  clear h ho hCo
  have hb := Below.refl w.heap.size w
  go_enter Tryd.func67, Tryd.ntmps67
  go_upto_region 0 with (fail)
  apply wp_region_lit
  have lthzp := heap_lt hz; (with_reducible refine wl_box rfl ?_); intro W p hbn hlp hp; replace hz := below_look hbn hz; replace hb := hb.trans (hbn.mono hb.size); clear hbn; simp only [put_lit, List.set_cons_zero, List.set_cons_succ]
  (with_reducible refine wl_k ?_ ?_); exact rfl; intro K hK; go_simp; refine hK _ ?_; clear hK K
  go_upto_region 1 with (fail)
  apply wp_region_lit
  (with_reducible refine wl_k ?_ ?_); exact rfl; intro K hK; go_simp; refine hK _ ?_; clear hK K
  (first | ((with_reducible apply wl_oneG); exact rfl; exact rfl; first | exact f0 (by with_reducible assumption) | exact f1 (by with_reducible assumption) | exact f2 (by with_reducible assumption) | exact f3 (by with_reducible assumption) | with_reducible assumption | exact g22 (by with_reducible assumption) | exact g25 (by with_reducible assumption)) | ((with_reducible apply wl_rowG); exact rfl; exact rfl; first | with_reducible assumption | exact RowK.now (by with_reducible assumption) | exact f4 (by with_reducible assumption)))
  (with_reducible refine wl_k ?_ ?_); exact rfl; intro K hK; go_simp; refine hK _ ?_; clear hK K
  by_cases hk7 : k = 7
  · have e1 : (k == 7) = true := by simp [hk7]
    have HST : Hid ((stepP t ns).2 = ns ++ [s]) := Lib.hid (by rw [he]; simp [stepP, Ty.kind, Ty.name, hk7])
    clear hk7
    go_upto_region 2 with (fail)
    have HOW := Lib.hid (HO.out.old hb)
    apply wp_region_lit
    ((with_reducible apply wl_oneG); exact rfl; exact rfl; exact g25 hz)
    (with_reducible refine wl_k ?_ ?_); exact rfl; intro K hK; go_simp; refine hK _ ?_; clear hK K
    (first | ((with_reducible apply wl_oneG); exact rfl; exact rfl; first | exact f0 (by with_reducible assumption) | exact f1 (by with_reducible assumption) | exact f2 (by with_reducible assumption) | exact f3 (by with_reducible assumption) | with_reducible assumption | exact g22 (by with_reducible assumption) | exact g25 (by with_reducible assumption)) | ((with_reducible apply wl_rowG); exact rfl; exact rfl; first | with_reducible assumption | exact RowK.now (by with_reducible assumption) | exact f4 (by with_reducible assumption)))
    have lthzq := heap_lt hz; have lthpq := heap_lt hp; (with_reducible refine wl_bsS rfl ?_); intro W1 q hbn hlq hq; replace hz := below_look hbn hz; replace hp := below_look hbn hp; replace hb := hb.trans (hbn.mono hb.size); clear hbn; simp only [put_lit, List.set_cons_zero, List.set_cons_succ]
    replace HOW := Lib.hid (HO.out.old hb)
    refine wl_pushS rfl _ _ rfl rfl rfl HOW.out hq (by omega) (by have := hb.size; omega) ?_
    intro A9 l9 c9 w9 hown hgro
    have hzn : (Value.slice A l c).ownBlock ≠ some z := fun e => by have := (HLT.out z e).1; omega
    have hzg := (hgro.keep z (heap_lt hz) hzn).trans hz
    have HK := Lib.hid ((Keep.of (C := C) hb).trans (C' := C) (fun b h => Or.inl h) (Keep.gro hgro HCO.out))
    have HG := Lib.hid (show ∀ b, (Value.slice A9 l9 c9).ownBlock = some b → C b ∨ w.heap.size ≤ b from fun b e => (hgro.own b e).imp (HCO.out b) (fun h => by have := hb.size; omega))
    have HN := Lib.hid hown
    have hzz : (Value.slice A9 l9 c9).ownBlock ≠ some z := fun e => by have := (hown.lt z e).1; omega
    clear hown hgro hz hp hq
    simp only [put_lit, List.set_cons_zero, List.set_cons_succ]
    (with_reducible refine wl_put1 (v := .slice A9 l9 c9) info25 ?_ ?_ ?_ hzg ?_); exact rfl; exact rfl; exact rfl; rw [put_noneA]; intro W3 hbx hsz hkx hnx; clear hzg; have hzg := hnx; clear hnx
    have HK3 := Lib.hid (HK.out.trans (C' := C) (fun b h => Or.inl h) (w2 := W3) ⟨(hbx 0 w9 (Nat.zero_le _) (Below.refl _ _)).os, (hbx 0 w9 (Nat.zero_le _) (Below.refl _ _)).tape, (hbx 0 w9 (Nat.zero_le _) (Below.refl _ _)).output, (hbx 0 w9 (Nat.zero_le _) (Below.refl _ _)).size, fun b _ hn => hkx b (fun e => hn (by rw [e]; exact hCz))⟩)
    have HN3 : Hid (OwnS W3 B (.slice A9 l9 c9) (ns ++ [s])) := Lib.hid (own_same HN.out fun q _ e => hkx q (fun e2 => hzz (by rw [← e2]; exact e)))
    have HZ := Lib.hid hzg
    clear hbx hkx hsz hzg HN HK HOW
    go_wp2_with fail
    go_ret
    exact ⟨rfl, _, _, _, HZ.out, by rw [HST.out]; exact HN3.out, HK3.out, HG.out⟩
  · have e1 : (k == 7) = false := by simp [hk7]
    have HST : Hid ((stepP t ns).2 = ns) := Lib.hid (by rw [he]; simp [stepP, Ty.kind, hk7])
    clear hk7
    have HZ := Lib.hid hz
    clear hz hp
    go_wp2_with fail
    go_ret
    exact ⟨rfl, _, _, _, HZ.out, by rw [HST.out]; exact HO.out.old hb, Keep.of hb, fun b e => .inl (HCO.out b e)⟩
/-- The collected names, their variable. -/
def InvP (z B : Nat) (w : World) (C : Nat → Prop) (ns : List ByteArray) : Prop :=
  ∃ A l c, w.heap[z]? = some (.cells #[.slice A l c] 25 (0, 0)) ∧ OwnS w B (.slice A l c) ns ∧ z < B ∧ B ≤ w.heap.size ∧ ∀ b, C b ↔ b = z ∨ (Value.slice A l c).ownBlock = some b
theorem visit_len : ∀ (t : Ty) (ns : List ByteArray), (visit stepP t ns).1 = true ∧ (visit stepP t ns).2.length ≤ ns.length + t.nodes := Ty.ind fun k s n l ih ns => by
  have hl : ∀ (l : List Ty), (∀ t, t ∈ l → ∀ ns, (visit stepP t ns).1 = true ∧ (visit stepP t ns).2.length ≤ ns.length + t.nodes) → ∀ ns, (visits stepP l ns).1 = true ∧ (visits stepP l ns).2.length ≤ ns.length + nodesL l := by
    intro l
    induction l with
    | nil => intro _ ns; simp [visits, nodesL]
    | cons t l ihl =>
      intro h ns
      obtain ⟨h1, h2⟩ := h t (by simp) ns
      simp only [visits, nodesL]
      cases hv : visit stepP t ns with
      | mk b x =>
        rw [hv] at h1 h2
        cases h1
        obtain ⟨g1, g2⟩ := ihl (fun t ht => h t (by simp [ht])) x
        exact ⟨g1, by simp only at h2 ⊢; omega⟩
  have hs : stepP (.node k s n l) ns = (true, (stepP (.node k s n l) ns).2) := rfl
  have hs2 : (stepP (.node k s n l) ns).2.length ≤ ns.length + 1 := by
    unfold stepP
    simp only
    split <;> simp
  simp only [visit]
  rw [hs]
  obtain ⟨g1, g2⟩ := hl l ih (stepP (.node k s n l) ns).2
  exact ⟨g1, by simp only [Ty.nodes]; omega⟩
theorem visC_params (z B : Nat) : VisC2 (fun t (s : List ByteArray) => s.length + t.nodes ≤ 1000) (fun l s => s.length + nodesL l ≤ 1000) 67 #[.pointer (some ⟨z, 0, none⟩)] stepP (InvP z B) where
  ent := ent67
  low := fun w C s hI b hb => by
    obtain ⟨A, l, c, h1, h2, h3, h4, h5⟩ := hI
    rcases (h5 b).1 hb with rfl | e
    · exact heap_lt h1
    · exact (h2.lt b e).2
  keep := fun w C s hI w' hb => by
    obtain ⟨A, l, c, h1, h2, h3, h4, h5⟩ := hI
    exact ⟨A, l, c, below_look hb h1, h2.old hb, h3, Nat.le_trans h4 hb.size, h5⟩
  sub := fun k s n l st h _ => by
    have : (stepP (.node k s n l) st).2.length ≤ st.length + 1 := by
      unfold stepP
      simp only
      split <;> simp
    simp only [Ty.nodes] at h
    show _ + _ ≤ _
    omega
  one := fun t l st h => by simp only [nodesL] at h; show _ + _ ≤ _; omega
  next := fun t l st h _ => by
    have := (visit_len t st).2
    simp only [nodesL] at h
    show _ + _ ≤ _
    omega
  run := fun w C s hI t hq D row h _ => by
    obtain ⟨A, l, c, h1, h2, h3, h4, h5⟩ := hI
    refine (params1_any z B t w A l c s C h1 h2 h3 h4 (by have : s.length + t.nodes ≤ 1000 := hq; omega) ((h5 z).2 (.inl rfl)) (fun b e => (h5 b).2 (.inr e)) D row h).mono ?_
    rintro e w' ⟨rfl, A', l', c', g1, g2, g3, g4⟩
    refine ⟨rfl, fun b => b = z ∨ (Value.slice A' l' c').ownBlock = some b, fun _ => ⟨A', l', c', g1, g2, h3, Nat.le_trans h4 g3.size, fun b => Iff.rfl⟩, g3, fun b hb => ?_⟩
    rcases hb with rfl | hb
    · exact .inl ((h5 b).2 (.inl rfl))
    · exact g4 b hb
/-- The names of a tree's parameters, in the order in which its nodes are seen. -/
def namesOf (t : Ty) : List ByteArray := (visit stepP t []).2
set_option maxHeartbeats 2000000 in
set_option maxRecDepth 100000 in
theorem Params_any (t : Ty) (hnd : t.nodes ≤ 900) (w : World) (D : Nat → Prop) (row : Array Value) (h : TyAt w D t row) :
    Calls Tryd.prog 39 #[.agg row] w fun e w' => ∃ A l c, e = .returned (.slice A l c) ∧ TxAt w' (distinctL (namesOf t)) A l c ∧ Below w.heap.size w w' := by
  have hmf : ∀ (fn : Fn) (first cap : Array Value) (w : World), (Instr.makeFunc fn first cap).run Tryd.prog w = .ok (.func fn first cap) w := fun _ _ _ _ => rfl
  have HT := Lib.hid h
  obtain ⟨k, s, n, A, l, c, ts, he, rfl, -⟩ := h.parts
  clear h he
  have hb := Below.refl w.heap.size w
  go_enter Tryd.func39, Tryd.ntmps39
  go_upto_region 0 with (fail)
  apply wp_region_lit
  (with_reducible refine wl_box rfl ?_); intro W p hbn hlp hp; replace hb := hb.trans (hbn.mono hb.size); clear hbn; simp only [put_lit, List.set_cons_zero, List.set_cons_succ]
  (with_reducible refine wl_k ?_ ?_); exact rfl; intro K hK; go_simp; refine hK _ ?_; clear hK K
  have hlW := hb.size
  go_upto_region 1 with (fail)
  apply wp_region_lit
  refine wl_new (z := #[.slice none 0 0]) (fun ev w => ex_alloc25 rfl ev w) ?_
  intro W2 z hbn hlz hz
  replace hp := below_look hbn hp; replace hb := hb.trans (hbn.mono hb.size); clear hbn
  simp only [put_lit, List.set_cons_zero, List.set_cons_succ]
  have hlt := heap_lt hz
  have hlw := hb.size
  have hlp' := heap_lt hp
  have HC := Lib.hid (each_any2 (visC_params z W2.heap.size) t W2 (fun b => b = z) [] (by show _ + _ ≤ _; simp; omega) (fun b => D b ∧ b < w.heap.size) (cell4 k s n A l c) ⟨none, 0, 0, hz, OwnS.nil _ _, hlt, Nat.le_refl _, fun b => by simp [Value.ownBlock]⟩ (HT.out.low.old hb) (fun b hD hc => by have := hD.2; omega))
  rw [show visit stepP t [] = (true, namesOf t) from Prod.ext (visit_len t []).1 rfl] at HC
  have HNL : Hid ((namesOf t).length ≤ 1000000) := Lib.hid (by have := (visit_len t []).2; unfold namesOf; simp at this; omega)
  go_upto_region 2 with (fail)
  apply wp_region_lit
  (first | ((with_reducible apply wl_oneG); exact rfl; exact rfl; first | exact f0 (by with_reducible assumption) | exact f1 (by with_reducible assumption) | exact f2 (by with_reducible assumption) | exact f3 (by with_reducible assumption) | with_reducible assumption | exact g22 (by with_reducible assumption) | exact g25 (by with_reducible assumption)) | ((with_reducible apply wl_rowG); exact rfl; exact rfl; first | with_reducible assumption | exact RowK.now (by with_reducible assumption) | exact f4 (by with_reducible assumption)))
  (with_reducible refine wl_k ?_ ?_); exact rfl; intro K hK; go_simp; refine hK _ ?_; clear hK K
  (with_reducible refine wl_ck ?_ ?_); exact rfl; intro K hK; go_simp; refine ⟨_, _, ⟨rfl, rfl⟩, hK _ _ ⟨_, HC.out, ?_⟩⟩; clear hK K; rintro e w7 ⟨rfl, C7, hI7, hk7, hC7⟩; refine ⟨_, rfl, ?_⟩; simp only [put_lit, List.set_cons_zero, List.set_cons_succ]
  obtain ⟨A7, l7, c7, hz7, ho7, -, -, -⟩ := hI7 rfl
  have HO7 := Lib.hid ho7
  have HB7 := Lib.hid (Below.keep hb hk7 (fun b (h : b = z) => by omega))
  clear hI7 hk7 hC7 ho7 hp hz
  clear HC
  have HC := Lib.hid (distinct_any W2.heap.size A7 l7 c7 (namesOf t) w7 HO7.out HNL.out)
  go_upto_region 3 with (fail)
  apply wp_region_lit
  ((with_reducible apply wl_oneG); exact rfl; exact rfl; exact g25 hz7)
  (with_reducible refine wl_ck ?_ ?_); exact rfl; intro K hK; go_simp; refine ⟨_, _, ⟨rfl, rfl⟩, hK _ _ ⟨_, HC.out, ?_⟩⟩; clear hK K; rintro e w8 ⟨v8, rfl, hown8, hgr8, -⟩; refine ⟨_, rfl, ?_⟩; simp only [put_lit, List.set_cons_zero, List.set_cons_succ]
  obtain ⟨A8, l8, c8, rfl, htx8⟩ := hown8.tx
  have HTX := Lib.hid htx8
  have HB8 := Lib.hid (Below.grown HB7.out hgr8 (by have := HB7.out.size; omega) (fun b e => by have := (HO7.out.lt b e).1; omega))
  clear hown8 hgr8 htx8 hz7
  (with_reducible refine wl_k ?_ ?_); exact rfl; intro K hK; go_simp; refine hK _ ?_; clear hK K
  clear HC
  go_wp2_with fail
  go_ret
  exact ⟨_, _, _, rfl, HTX.out, HB8.out⟩
end Go.Proofs.YtokmaehefenpmaaDoor
