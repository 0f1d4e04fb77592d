/- A tree in which nodes are replaced (replaced), for any function that says by what; a copy (copied). -/
import Derived.Test.YtokmaehefenpmaaDoorW3
import Derived.Shelf.Abstract
namespace Go.Proofs.YtokmaehefenpmaaDoor
open Go.RowKit Go.Proofs.YtokmaehefenpmaaDoor.Nm
set_option linter.unusedSimpArgs false
theorem zero_at (w : World) (D : Nat → Prop) : TyAt w D zeroTy (cell4 0 ⟨#[]⟩ 0 none 0 0) := TyAt.of (by rfl) (by rfl) (Nat.zero_le _) (TysAt.nil w D)
/-- A call of a function value that the walk does not know. -/
theorem wl_fv {ops : Array Oper} {rest : List Oper} {o : Oper} {a : Act} {w : World} {Q : Exit → Act → World → Prop} (hg : o.guard = none) (x y : Operand) (T : Array TypeId) (ho : o.op = .call { callee := .value x, args := #[y], argTypes := T }) {K : FuncId} {caps : Array Value} {v : Value}
    (hx : a.eval x = .func (.func K) #[] caps) (hy : a.eval y = v) (hE : Enters Tryd.prog K) {R : Ending → World → Prop} (hc : Calls Tryd.prog K (#[v] ++ caps) w R) (h : ∀ e w1, R e w1 → ∃ u, e = .returned u ∧ wpList Tryd.prog ops Q rest (a.put o.dst u) w1) : wpList Tryd.prog ops Q (o :: rest) a w := by
  refine wpList_plain hg fun K' hK => ?_
  have hv : (execOp a.eval o).run Tryd.prog w = .ok (.enter K (#[v] ++ caps)) w := by
    unfold execOp
    simp only [ho, resolve, Deferred.ofValue, invoke, hx, hy, Sem.run_bind, Sem.run_pure, Result.andThen_ok, List.map_toArray, List.map_cons, List.map_nil]
    simpa using hE (#[v] ++ caps) w
  unfold Oper.wp; rw [hv]
  refine hc.mono fun e w1 hr => ?_
  obtain ⟨u, rfl, h2⟩ := h e w1 hr
  exact hK _ _ h2
def FPost (w : World) (o : Option Ty) (e : Ending) (w' : World) : Prop := ∃ row, e = .returned (.tuple #[.agg row, .bool o.isSome]) ∧ TyAt w' (fun b => w.heap.size ≤ b) (o.getD zeroTy) row ∧ Below w.heap.size w w'
/-- A function value that says by what a node is replaced. -/
structure FnC (K : FuncId) (caps : Array Value) (g : Ty → Option Ty) (w0 : World) : Prop where
  ent : Enters Tryd.prog K
  run : ∀ w, Below w0.heap.size w0 w → ∀ (t : Ty) (D : Nat → Prop) (row : Array Value), TyAt w D t row → Calls Tryd.prog K (#[.agg row] ++ caps) w (FPost w (g t))
def ReplC (g : Ty → Option Ty) (t : Ty) : Prop := t.nodes ≤ 1000000 → ∀ (K : FuncId) (caps : Array Value) (w0 : World), FnC K caps g w0 → ∀ (w : World), Below w0.heap.size w0 w → ∀ (D : Nat → Prop) (row : Array Value), TyAt w D t row →
  Calls Tryd.prog 48 #[.agg row, .func (.func K) #[] caps] w (NewTy w (repl g t))
set_option maxHeartbeats 4000000 in
set_option maxRecDepth 100000 in
theorem replaced_any (g : Ty → Option Ty) : ∀ t : Ty, ReplC g t := Ty.ind fun k s n ts ih hnd K caps w0 hF w hw0 D row h => by
  obtain ⟨k1, s1, n1, A, l, c, ts1, e, rfl, hk, hn, hs, hT⟩ := h.parts
  cases e
  have HT := Lib.hid hT
  have HTA := Lib.hid h
  have HL := Lib.hid hT.len
  have hcm := hT.cap
  have hmx := hT.max
  unfold maxLen at hmx
  have hl6 : l ≤ 1000000 := by have := len_nodesL ts; have := hT.len; simp only [Ty.nodes] at hnd; omega
  have HK := Lib.hid (show (Lit.int .i64 k).wf = true ∧ (Lit.int .i64 n).wf = true ∧ s.size ≤ maxLen from ⟨hk, hn, hs⟩)
  have HF := Lib.hid hF
  have HE := Lib.hid hF.ent
  have HW0 := Lib.hid hw0
  have HI := Lib.hid (fun t (ht : t ∈ ts) => ih t ht (by have := mem_nodesL ht; simp only [Ty.nodes] at hnd; omega) K caps w0 hF)
  clear h hk hn hs hT ih hnd hF hw0
  have hb := Below.refl w.heap.size w
  go_enter Tryd.func48, Tryd.ntmps48
  go_upto_region 0 with (fail)
  apply wp_region_lit
  (with_reducible refine wl_box rfl ?_); intro W p hbn hlp hp; replace hb := hb.trans (hbn.mono hb.size); clear hbn; simp only [put_lit, List.set_cons_zero, List.set_cons_succ]
  have lthpr := heap_lt hp; (with_reducible refine wl_all ?_); intro W2 r hbn hlr hr; replace hp := below_look hbn hp; replace hb := hb.trans (hbn.mono hb.size); clear hbn; simp only [put_lit, List.set_cons_zero, List.set_cons_succ]
  have HC := Lib.hid (HF.out.run W2 (HW0.out.trans (hb.mono HW0.out.size)) _ D _ (HTA.out.old hb))
  go_upto_region 1 with (fail)
  cases hg : g (.node k s n ts) with
  | some u =>
    have HG := Lib.hid (repl_some hg)
    rw [hg] at HC
    clear hg
    apply wp_region_lit
    (with_reducible refine wl_k ?_ ?_); exact rfl; intro K hK; go_simp; refine hK _ ?_; clear hK K
    (first | ((with_reducible apply wl_oneG); exact rfl; exact rfl; first | exact f0 (by with_reducible assumption) | exact f1 (by with_reducible assumption) | exact f2 (by with_reducible assumption) | exact f3 (by with_reducible assumption) | with_reducible assumption | exact g22 (by with_reducible assumption) | exact g25 (by with_reducible assumption)) | ((with_reducible apply wl_rowG); exact rfl; exact rfl; first | with_reducible assumption | exact RowK.now (by with_reducible assumption) | exact f4 (by with_reducible assumption)))
    refine wl_fv rfl _ _ _ rfl rfl rfl HE.out HC.out ?_
    rintro e w7 ⟨row7, rfl, hta7, hb7⟩
    refine ⟨_, rfl, ?_⟩
    simp only [put_lit, List.set_cons_zero, List.set_cons_succ]
    obtain ⟨k7, s7, n7, A7, l7, c7, ts7, hu7, rfl, -⟩ := hta7.parts
    have hlp' := heap_lt hp
    have hlr' := heap_lt hr
    have HA := Lib.hid (hta7.weak (D' := fun b => w.heap.size ≤ b ∧ b ≠ p ∧ b ≠ r) fun b (hb : W2.heap.size ≤ b) => ⟨by have := hb; omega, by omega, by omega⟩)
    clear hta7 HC hu7
    replace hp := below_look hb7 hp; replace hr := below_look hb7 hr; replace hb := hb.trans (hb7.mono hb.size); clear hb7
    have hb8 := Below.refl w7.heap.size w7
    (with_reducible refine wl_k ?_ ?_); exact rfl; intro K hK; go_simp; refine hK _ ?_; clear hK K
    (with_reducible refine wl_k ?_ ?_); exact rfl; intro K hK; go_simp; refine hK _ ?_; clear hK K
    (with_reducible refine wl_k ?_ ?_); exact rfl; intro K hK; go_simp; refine hK _ ?_; clear hK K
    have lthpq := heap_lt hp; have lthrq := heap_lt hr; (with_reducible refine wl_all ?_); intro W3 q hbn hlq hq; replace hp := below_look hbn hp; replace hr := below_look hbn hr; replace hb := hb.trans (hbn.mono hb.size); replace hb8 := hb8.trans (hbn.mono hb8.size); clear hbn; simp only [put_lit, List.set_cons_zero, List.set_cons_succ]
    have hpq := heap_lt hq
    (with_reducible refine wl_put rfl rfl hq ?_); rw [put_noneA]; intro W4 hbx hsz hkx hnx; replace hp := (hkx _ (by omega)).trans hp; replace hr := (hkx _ (by omega)).trans hr; replace hb := hbx _ _ (by omega) hb; replace hb8 := hbx _ _ (by omega) hb8; clear hq; have hq := hnx; clear hnx
    clear hbx hkx hsz
    replace HA := Lib.hid (HA.out.old hb8)
    clear hb8
    (with_reducible refine wl_k ?_ ?_); exact rfl; intro K hK; go_simp; refine hK _ ?_; clear hK K
    go_upto_region 3 with (fail)
    apply wp_region_lit
    (first | ((with_reducible apply wl_oneG); exact rfl; exact rfl; first | exact f0 (by with_reducible assumption) | exact f1 (by with_reducible assumption) | exact f2 (by with_reducible assumption) | exact f3 (by with_reducible assumption) | with_reducible assumption | exact g22 (by with_reducible assumption) | exact g25 (by with_reducible assumption)) | ((with_reducible apply wl_rowG); exact rfl; exact rfl; first | with_reducible assumption | exact RowK.now (by with_reducible assumption) | exact f4 (by with_reducible assumption)))
    (with_reducible refine wl_put rfl rfl hr ?_); rw [put_noneA]; intro W5 hbx hsz hkx hnx; replace hb := hbx _ _ (by omega) hb; clear hr; have hr := hnx; clear hnx
    replace HA := Lib.hid (HA.out.mono (fun _ h => h) (fun b h => hkx b h.2.2))
    clear hbx hkx hsz
    have HQ := Lib.hid hr
    clear hp hr hq
    go_wp2_with fail
    exact bodyPost_ret (res24 rfl _ _ r rfl HQ.out) rfl ⟨_, rfl, by rw [HG.out]; exact HA.out.weak fun b h => h.1, hb⟩
  | none =>
    have HG := Lib.hid (repl_none hg)
    rw [hg] at HC
    clear hg
    apply wp_region_lit
    (with_reducible refine wl_k ?_ ?_); exact rfl; intro K hK; go_simp; refine hK _ ?_; clear hK K
    (first | ((with_reducible apply wl_oneG); exact rfl; exact rfl; first | exact f0 (by with_reducible assumption) | exact f1 (by with_reducible assumption) | exact f2 (by with_reducible assumption) | exact f3 (by with_reducible assumption) | with_reducible assumption | exact g22 (by with_reducible assumption) | exact g25 (by with_reducible assumption)) | ((with_reducible apply wl_rowG); exact rfl; exact rfl; first | with_reducible assumption | exact RowK.now (by with_reducible assumption) | exact f4 (by with_reducible assumption)))
    refine wl_fv rfl _ _ _ rfl rfl rfl HE.out HC.out ?_
    rintro e w7 ⟨row7, rfl, hta7, hb7⟩
    refine ⟨_, rfl, ?_⟩
    simp only [put_lit, List.set_cons_zero, List.set_cons_succ]
    obtain ⟨k7, s7, n7, A7, l7, c7, ts7, hu7, rfl, -⟩ := hta7.parts
    clear hta7 HC hu7
    replace hp := below_look hb7 hp; replace hr := below_look hb7 hr; replace hb := hb.trans (hb7.mono hb.size); clear hb7
    (with_reducible refine wl_k ?_ ?_); exact rfl; intro K hK; go_simp; refine hK _ ?_; clear hK K
    (with_reducible refine wl_k ?_ ?_); exact rfl; intro K hK; go_simp; refine hK _ ?_; clear hK K
    (with_reducible refine wl_k ?_ ?_); exact rfl; intro K hK; go_simp; refine hK _ ?_; clear hK K
    have lthpq := heap_lt hp; have lthrq := heap_lt hr; (with_reducible refine wl_all ?_); intro W3 q hbn hlq hq; replace hp := below_look hbn hp; replace hr := below_look hbn hr; replace hb := hb.trans (hbn.mono hb.size); clear hbn; simp only [put_lit, List.set_cons_zero, List.set_cons_succ]
    have hpq := heap_lt hq
    (with_reducible refine wl_put rfl rfl hq ?_); rw [put_noneA]; intro W4 hbx hsz hkx hnx; replace hp := (hkx _ (by omega)).trans hp; replace hr := (hkx _ (by omega)).trans hr; replace hb := hbx _ _ (by omega) hb; clear hq; have hq := hnx; clear hnx
    clear hbx hkx hsz
    (with_reducible refine wl_k ?_ ?_); exact rfl; intro K hK; go_simp; refine hK _ ?_; clear hK K
    go_upto_region 4 with (fail)
    apply wp_region_lit
    (first | ((with_reducible apply wl_oneG); exact rfl; exact rfl; first | exact f0 (by with_reducible assumption) | exact f1 (by with_reducible assumption) | exact f2 (by with_reducible assumption) | exact f3 (by with_reducible assumption) | with_reducible assumption | exact g22 (by with_reducible assumption) | exact g25 (by with_reducible assumption)) | ((with_reducible apply wl_rowG); exact rfl; exact rfl; first | with_reducible assumption | exact RowK.now (by with_reducible assumption) | exact f4 (by with_reducible assumption)))
    have lthpo := heap_lt hp; have lthro := heap_lt hr; (with_reducible refine wl_all ?_); intro W5 o hbn hlo ho; replace hp := below_look hbn hp; replace hr := below_look hbn hr; replace hb := hb.trans (hbn.mono hb.size); clear hbn; simp only [put_lit, List.set_cons_zero, List.set_cons_succ]
    (with_reducible refine wl_put rfl rfl ho ?_); rw [put_noneA]; intro W6 hbx hsz hkx hnx; replace hp := (hkx _ (by omega)).trans hp; replace hr := (hkx _ (by omega)).trans hr; replace hb := hbx _ _ (by omega) hb; clear ho; have ho := hnx; clear hnx
    clear hbx hkx hsz
    go_upto_region 5 with (fail)
    apply wp_region_lit
    (with_reducible refine wl_k ?_ ?_); exact rfl; intro K hK; go_simp; refine hK _ ?_; clear hK K
    (with_reducible refine wl_put3 rfl rfl ho ?_); rw [put_noneA]; intro W7 hbx hsz hkx hnx; replace hp := (hkx _ (by omega)).trans hp; replace hr := (hkx _ (by omega)).trans hr; replace hb := hbx _ _ (by omega) hb; clear ho; have ho := hnx; clear hnx
    clear hbx hkx hsz
    have hlo2 := heap_lt ho
    have HO := Lib.hid (OwnT.nil W7 W7.heap.size)
    obtain ⟨B2, hB2⟩ : ∃ B2, B2 = W7.heap.size := ⟨_, rfl⟩
    rw [← hB2] at HO
    have hB3 : B2 ≤ W7.heap.size := by omega
    have hoB : o < B2 := by omega
    have hpB : p < B2 := by have := heap_lt hp; omega
    have hrB : r < B2 := by have := heap_lt hr; omega
    clear hB2 hlo2 hq hpq
    go_upto_region 6 with (fail)
    apply wp_region_lit
    (with_reducible refine wl_k ?_ ?_); exact rfl; intro K hK; go_simp; refine hK _ ?_; clear hK K
    (first | ((with_reducible apply wl_oneG); exact rfl; exact rfl; first | exact f0 (by with_reducible assumption) | exact f1 (by with_reducible assumption) | exact f2 (by with_reducible assumption) | exact f3 (by with_reducible assumption) | with_reducible assumption | exact g22 (by with_reducible assumption) | exact g25 (by with_reducible assumption)) | ((with_reducible apply wl_rowG); exact rfl; exact rfl; first | with_reducible assumption | exact RowK.now (by with_reducible assumption) | exact f4 (by with_reducible assumption)))
    (with_reducible refine wl_k ?_ ?_); exact rfl; intro K hK; go_simp; refine hK _ ?_; clear hK K
    (with_reducible refine wl_k ?_ ?_); exact rfl; intro K hK; go_simp; refine hK _ ?_; clear hK K
    go_wp2_with fail
    go_loopw [24] (fun i wr => ∃ (j : Nat) (A' : Option Addr) (l' c' : Nat), j ≤ l ∧ i = .int .i64 (j : Int) ∧ Hid (OwnT wr B2 (.slice A' l' c') ((ts.take j).map (repl g))) ∧ Below w.heap.size w wr ∧ B2 ≤ wr.heap.size ∧ wr.heap[p]? = some (.cells (cell4 k s n A l c) 24 (0, 0)) ∧ wr.heap[r]? = some (.cells (cell4 0 ⟨#[]⟩ 0 none 0 0) 24 (0, 0)) ∧ wr.heap[o]? = some (.cells (cell4 k s n A' l' c') 24 (0, 0))) (fun i _ => l - (intOf i).toNat)
    case atStart => exact ⟨0, none, 0, 0, by omega, rfl, HO, hb, hB3, hp, hr, ho⟩
    case round =>
      clear hb HO hp hr ho hB3
      obtain ⟨j, A1, l1, c1, hj, rfl, HO, hb, hB3, hp, hr, ho⟩ := hrel
      by_cases hlt : j < l
      · have hltI : (j : Int) < (l : Int) := by omega
        obtain ⟨b, off, t, row, rfl, -, ht, -⟩ := HT.out.get hlt
        obtain ⟨row, hrow, hta⟩ := (HT.out.old hb).rowK ht
        obtain ⟨k3, s3, n3, A3, l3, c3, ts3, ht3, rfl, -⟩ := hta.parts
        have HTB := Lib.hid hta
        have HTK : Hid ((ts.take (j + 1)).map (repl g) = (ts.take j).map (repl g) ++ [repl g t]) := Lib.hid (by rw [List.take_add_one, ht]; simp)
        have HLN : Hid (((ts.take j).map (repl g)).length ≤ 1000000) := Lib.hid (by rw [List.length_map, List.length_take]; omega)
        have HM := Lib.hid (List.mem_of_getElem? ht)
        clear hta ht ht3
        have hz := Below.refl wr.heap.size wr
        have hBW := hB3
        go_upto_region 8 with (fail)
        apply wp_region_lit
        (with_reducible refine wl_k ?_ ?_); exact rfl; intro K hK; go_simp; refine hK _ ?_; clear hK K
        (first | ((with_reducible apply wl_oneG); exact rfl; exact rfl; first | exact f0 (by with_reducible assumption) | exact f1 (by with_reducible assumption) | exact f2 (by with_reducible assumption) | exact f3 (by with_reducible assumption) | with_reducible assumption | exact g22 (by with_reducible assumption) | exact g25 (by with_reducible assumption)) | ((with_reducible apply wl_rowG); exact rfl; exact rfl; first | with_reducible assumption | exact RowK.now (by with_reducible assumption) | exact f4 (by with_reducible assumption)))
        have lthpq := heap_lt hp; have lthrq := heap_lt hr; have lthoq := heap_lt ho; (with_reducible refine wl_all ?_); intro X1 q hbn hlq hq; replace hp := below_look hbn hp; replace hr := below_look hbn hr; replace ho := below_look hbn ho; replace hb := hb.trans (hbn.mono hb.size); replace hz := hz.trans (hbn.mono hz.size); clear hbn; simp only [put_lit, List.set_cons_zero, List.set_cons_succ]
        (with_reducible refine wl_put rfl rfl hq ?_); rw [put_noneA]; intro X2 hbx hsz hkx hnx; replace hp := (hkx _ (by omega)).trans hp; replace hr := (hkx _ (by omega)).trans hr; replace ho := (hkx _ (by omega)).trans ho; replace hb := hbx _ _ (by omega) hb; replace hz := hbx _ _ (by omega) hz; clear hq; have hq := hnx; clear hnx
        clear hbx hkx hsz
        have HC := Lib.hid (HI.out t HM.out X2 (HW0.out.trans (hb.mono HW0.out.size)) D _ (HTB.out.old hz))
        have hzs := hz.size
        clear hrow HM HTB
        go_upto_region 9 with (fail)
        apply wp_region_lit
        (first | ((with_reducible apply wl_oneG); exact rfl; exact rfl; first | exact f0 (by with_reducible assumption) | exact f1 (by with_reducible assumption) | exact f2 (by with_reducible assumption) | exact f3 (by with_reducible assumption) | with_reducible assumption | exact g22 (by with_reducible assumption) | exact g25 (by with_reducible assumption)) | ((with_reducible apply wl_rowG); exact rfl; exact rfl; first | with_reducible assumption | exact RowK.now (by with_reducible assumption) | exact f4 (by with_reducible assumption)))
        (with_reducible refine wl_k ?_ ?_); exact rfl; intro K hK; go_simp; refine hK _ ?_; clear hK K
        (with_reducible refine wl_ck ?_ ?_); exact rfl; intro K hK; go_simp; refine ⟨_, _, ⟨rfl, rfl⟩, hK _ _ ⟨_, HC.out, ?_⟩⟩; clear hK K; rintro e w7 ⟨row7, rfl, hta7, hb7⟩; refine ⟨_, rfl, ?_⟩; simp only [put_lit, List.set_cons_zero, List.set_cons_succ]
        obtain ⟨k7, s7, n7, A7, l7, c7, ts7, hu7, rfl, -⟩ := hta7.parts
        have HA7 := Lib.hid (HO.out.apart hB3 (hta7.weak (D' := fun b => wr.heap.size ≤ b) fun b (h : X2.heap.size ≤ b) => Nat.le_trans hz.size h))
        have hzz := hb7.size
        clear hta7 HC hu7 hq
        replace hp := below_look hb7 hp; replace hr := below_look hb7 hr; replace ho := below_look hb7 ho; replace hb := hb.trans (hb7.mono hb.size); replace hz := hz.trans (hb7.mono hz.size); clear hb7
        have hb8 := Below.refl w7.heap.size w7
        have lthpq2 := heap_lt hp; have lthrq2 := heap_lt hr; have lthoq2 := heap_lt ho; (with_reducible refine wl_all ?_); intro X3 q2 hbn hlq2 hq2; replace hp := below_look hbn hp; replace hr := below_look hbn hr; replace ho := below_look hbn ho; replace hb := hb.trans (hbn.mono hb.size); replace hz := hz.trans (hbn.mono hz.size); replace hb8 := hb8.trans (hbn.mono hb8.size); clear hbn; simp only [put_lit, List.set_cons_zero, List.set_cons_succ]
        (with_reducible refine wl_put rfl rfl hq2 ?_); rw [put_noneA]; intro X4 hbx hsz hkx hnx; replace hp := (hkx _ (by omega)).trans hp; replace hr := (hkx _ (by omega)).trans hr; replace ho := (hkx _ (by omega)).trans ho; replace hb := hbx _ _ (by omega) hb; replace hz := hbx _ _ (by omega) hz; replace hb8 := hbx _ _ (by omega) hb8; clear hq2; have hq2 := hnx; clear hnx
        clear hbx hkx hsz
        replace HA7 := Lib.hid (HA7.out.old hb8)
        replace HO := Lib.hid (HO.out.old hz)
        have hB4 := hz.size
        clear hb8 hz
        go_upto_region 10 with (fail)
        have hb8 := Below.refl X4.heap.size X4
        apply wp_region_lit
        (with_reducible refine wl_k ?_ ?_); exact rfl; intro K hK; go_simp; refine hK _ ?_; clear hK K
        (first | ((with_reducible apply wl_oneG); exact rfl; exact rfl; first | exact f0 (by with_reducible assumption) | exact f1 (by with_reducible assumption) | exact f2 (by with_reducible assumption) | exact f3 (by with_reducible assumption) | with_reducible assumption | exact g22 (by with_reducible assumption) | exact g25 (by with_reducible assumption)) | ((with_reducible apply wl_rowG); exact rfl; exact rfl; first | with_reducible assumption | exact RowK.now (by with_reducible assumption) | exact f4 (by with_reducible assumption)))
        (first | ((with_reducible apply wl_oneG); exact rfl; exact rfl; first | exact f0 (by with_reducible assumption) | exact f1 (by with_reducible assumption) | exact f2 (by with_reducible assumption) | exact f3 (by with_reducible assumption) | with_reducible assumption | exact g22 (by with_reducible assumption) | exact g25 (by with_reducible assumption)) | ((with_reducible apply wl_rowG); exact rfl; exact rfl; first | with_reducible assumption | exact RowK.now (by with_reducible assumption) | exact f4 (by with_reducible assumption)))
        have lthpq3 := heap_lt hp; have lthrq3 := heap_lt hr; have lthoq3 := heap_lt ho; (with_reducible refine wl_bs rfl ?_); intro X5 q3 hbn hlq3 hq3; replace hp := below_look hbn hp; replace hr := below_look hbn hr; replace ho := below_look hbn ho; replace hb := hb.trans (hbn.mono hb.size); replace hb8 := hb8.trans (hbn.mono hb8.size); clear hbn; simp only [put_lit, List.set_cons_zero, List.set_cons_succ]
        replace HA7 := Lib.hid (HA7.out.old hb8)
        replace HO := Lib.hid (HO.out.old hb8)
        have hB5 := hb8.size
        clear hb8
        refine wl_push rfl _ _ rfl rfl rfl HO.out HA7.out hq3 HLN.out (by omega) ?_
        intro A9 l9 c9 w9 hown hk9 hbl
        have HLT := Lib.hid HO.out.lt
        have hB7 := (hbl 0 X5 (fun _ _ => Nat.zero_le _) (Nat.zero_le _) (Below.refl 0 X5)).size
        replace hb := hbl _ _ (fun b hb => by have := (HLT.out b hb).1; omega) hb.size hb
        have hp5 := heap_lt hp
        have hr5 := heap_lt hr
        have ho5 := heap_lt ho
        replace hp := (hk9 p hp5 (fun e => by have := (HLT.out _ e).1; omega)).trans hp
        replace hr := (hk9 r hr5 (fun e => by have := (HLT.out _ e).1; omega)).trans hr
        replace ho := (hk9 o ho5 (fun e => by have := (HLT.out _ e).1; omega)).trans ho
        rw [← HTK.out] at hown
        replace HO := Lib.hid hown
        clear hown hk9 hbl HA7 hq3 HLT hp5 hr5 ho5 hq2
        simp only [put_lit, List.set_cons_zero, List.set_cons_succ]
        (with_reducible refine wl_k ?_ ?_); exact rfl; intro K hK; go_simp; refine hK _ ?_; clear hK K
        (with_reducible refine wl_put3 rfl rfl ho ?_); rw [put_noneA]; intro X6 hbx hsz hkx hnx; replace hp := (hkx _ (by omega)).trans hp; replace hr := (hkx _ (by omega)).trans hr; replace hb := hbx _ _ (by omega) hb; clear ho; have ho := hnx; clear hnx
        replace HO := Lib.hid (HO.out.same (w' := X6) (fun q hq _ => hkx q (by omega)))
        have hB6 : B2 ≤ X6.heap.size := by omega
        clear hbx hkx hsz
        go_wp2_with fail
        go_roundw
        case rel => exact ⟨j + 1, _, _, _, by omega, by go_num, HO, hb, hB6, hp, hr, ho⟩
        case measure => simp [intOf]; omega
      · have hltI : ¬ (j : Int) < (l : Int) := by omega
        replace HO : Hid (OwnT wr B2 (.slice A1 l1 c1) (ts.map (repl g))) := Lib.hid (by have := HO.out; rwa [List.take_of_length_le (by rw [HL.out]; omega)] at this)
        obtain ⟨A9, l9, c9, he, h9⟩ := HO.out.at
        cases he
        have H9 := Lib.hid h9
        clear h9 HO
        go_upto_region 12 with (fail)
        apply wp_region_lit
        (first | ((with_reducible apply wl_oneG); exact rfl; exact rfl; first | exact f0 (by with_reducible assumption) | exact f1 (by with_reducible assumption) | exact f2 (by with_reducible assumption) | exact f3 (by with_reducible assumption) | with_reducible assumption | exact g22 (by with_reducible assumption) | exact g25 (by with_reducible assumption)) | ((with_reducible apply wl_rowG); exact rfl; exact rfl; first | with_reducible assumption | exact RowK.now (by with_reducible assumption) | exact f4 (by with_reducible assumption)))
        (with_reducible refine wl_put rfl rfl hr ?_); rw [put_noneA]; intro W8 hbx hsz hkx hnx; replace hb := hbx _ _ (by omega) hb; clear hr; have hr := hnx; clear hnx
        replace H9 := Lib.hid (H9.out.mono (D' := fun b => w.heap.size ≤ b) (fun b (h : B2 ≤ b) => (by omega : w.heap.size ≤ b)) (fun b (h : B2 ≤ b) => hkx b (by omega)))
        clear hbx hkx hsz
        have HQ := Lib.hid hr
        clear hp hr ho
        go_wp2_with fail
        exact bodyPost_ret (res24 rfl _ _ r rfl HQ.out) rfl ⟨_, rfl, by rw [HG.out]; exact TyAt.of HK.out.1 HK.out.2.1 HK.out.2.2 H9.out, hb⟩
theorem ent75 : Enters Tryd.prog 75 := enters_of Tryd.func75 (by kernel_rfl) rfl
theorem built24 : Tryd.prog.built 24 [] = some (cell4 0 ⟨#[]⟩ 0 none 0 0) := by kernel_rfl
/-- The function that replaces nothing. -/
theorem none_any (w : World) (t : Ty) (D : Nat → Prop) (row : Array Value) (h : TyAt w D t row) : Calls Tryd.prog 75 #[.agg row] w (FPost w none) := by
  obtain ⟨k, s, n, A, l, c, ts, -, rfl, -⟩ := h.parts
  clear h
  have hb := Below.refl w.heap.size w
  go_enter Tryd.func75, Tryd.ntmps75
  go_upto_region 0 with (fail)
  apply wp_region_lit
  (with_reducible refine wl_box rfl ?_); intro W p hbn hlp hp; replace hb := hb.trans (hbn.mono hb.size); clear hbn; simp only [put_lit, List.set_cons_zero, List.set_cons_succ]
  have lthpr := heap_lt hp; (with_reducible refine wl_all ?_); intro W2 r hbn hlr hr; replace hp := below_look hbn hp; replace hb := hb.trans (hbn.mono hb.size); clear hbn; simp only [put_lit, List.set_cons_zero, List.set_cons_succ]
  go_upto_region 1 with (fail)
  apply wp_region_lit
  refine wl_val rfl (ex_build 24 _ rfl (L := []) rfl built24) ?_
  simp only [put_lit, List.set_cons_zero, List.set_cons_succ]
  (with_reducible refine wl_put rfl rfl hr ?_); rw [put_noneA]; intro W3 hbx hsz hkx hnx; replace hb := hbx _ _ (by omega) hb; clear hr; have hr := hnx; clear hnx
  clear hbx hkx hsz
  (with_reducible refine wl_k ?_ ?_); exact rfl; intro K hK; go_simp; refine hK _ ?_; clear hK K
  have HQ := Lib.hid hr
  clear hp hr
  go_wp2_with fail
  exact bodyPost_ret (res24t rfl _ _ r rfl rfl HQ.out) rfl ⟨_, rfl, zero_at _ _, hb⟩
theorem fnC_none (w0 : World) : FnC 75 #[] (fun _ => none) w0 := ⟨ent75, fun w _ t D row h => none_any w t D row h⟩
set_option maxHeartbeats 4000000 in
set_option maxRecDepth 100000 in
theorem copied_any (t : Ty) (hn : t.nodes ≤ 1000000) (w : World) (D : Nat → Prop) (row : Array Value) (h : TyAt w D t row) : Calls Tryd.prog 51 #[.agg row] w (NewTy w t) := by
  obtain ⟨k, s, n, A, l, c, ts, -, rfl, -⟩ := h.parts
  have HT := Lib.hid h
  have HN := Lib.hid hn
  clear h hn
  have hb := Below.refl w.heap.size w
  go_enter Tryd.func51, Tryd.ntmps51
  go_upto_region 0 with (fail)
  apply wp_region_lit
  (with_reducible refine wl_box rfl ?_); intro W p hbn hlp hp; replace hb := hb.trans (hbn.mono hb.size); clear hbn; simp only [put_lit, List.set_cons_zero, List.set_cons_succ]
  have lthpr := heap_lt hp; (with_reducible refine wl_all ?_); intro W2 r hbn hlr hr; replace hp := below_look hbn hp; replace hb := hb.trans (hbn.mono hb.size); clear hbn; simp only [put_lit, List.set_cons_zero, List.set_cons_succ]
  have hC := replaced_any (fun _ => none) t HN.out 75 #[] W2 (fnC_none W2) W2 (Below.refl _ _) D _ (HT.out.old hb)
  rw [repl_id] at hC
  have HC := Lib.hid hC
  clear hC
  go_upto_region 1 with (fail)
  apply wp_region_lit
  (first | ((with_reducible apply wl_oneG); exact rfl; exact rfl; first | exact f0 (by with_reducible assumption) | exact f1 (by with_reducible assumption) | exact f2 (by with_reducible assumption) | exact f3 (by with_reducible assumption) | with_reducible assumption | exact g22 (by with_reducible assumption) | exact g25 (by with_reducible assumption)) | ((with_reducible apply wl_rowG); exact rfl; exact rfl; first | with_reducible assumption | exact RowK.now (by with_reducible assumption) | exact f4 (by with_reducible assumption)))
  (with_reducible refine wl_ck ?_ ?_); exact rfl; intro K hK; go_simp; refine ⟨_, _, ⟨rfl, rfl⟩, hK _ _ ⟨_, HC.out, ?_⟩⟩; clear hK K; rintro e w7 ⟨row7, rfl, hta7, hb7⟩; refine ⟨_, rfl, ?_⟩; simp only [put_lit, List.set_cons_zero, List.set_cons_succ]
  obtain ⟨k7, s7, n7, A7, l7, c7, ts7, hu7, rfl, -⟩ := hta7.parts
  have hlr' := heap_lt hr
  have HA := Lib.hid (hta7.weak (D' := fun b => w.heap.size ≤ b ∧ b ≠ r) fun b (hb : W2.heap.size ≤ b) => ⟨by have := hb; omega, by omega⟩)
  clear hta7 HC hu7 hp
  replace hr := below_look hb7 hr; replace hb := hb.trans (hb7.mono hb.size); clear hb7
  (with_reducible refine wl_put rfl rfl hr ?_); rw [put_noneA]; intro W3 hbx hsz hkx hnx; replace hb := hbx _ _ (by omega) hb; clear hr; have hr := hnx; clear hnx
  replace HA := Lib.hid (HA.out.mono (fun _ h => h) (fun b h => hkx b h.2))
  clear hbx hkx hsz
  have HQ := Lib.hid hr
  clear hr
  go_wp2_with fail
  exact bodyPost_ret (res24 rfl _ _ r rfl HQ.out) rfl ⟨_, rfl, HA.out.weak fun b h => h.1, hb⟩
end Go.Proofs.YtokmaehefenpmaaDoor
