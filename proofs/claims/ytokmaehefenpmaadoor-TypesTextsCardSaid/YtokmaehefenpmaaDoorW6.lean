/- The program's Apply and Func. -/
import Derived.Test.YtokmaehefenpmaaDoorW5
namespace Go.Proofs.YtokmaehefenpmaaDoor
open Go.RowKit Go.Proofs.YtokmaehefenpmaaDoor.Nm
set_option linter.unusedSimpArgs false
theorem fnC_apply (sol : List Ty) (hnl : ∀ u, u ∈ sol → u.nodes ≤ 1000000) (ps : Nat) (A : Option Addr) (l c : Nat) (w : World) (hps : w.heap[ps]? = some (.cells #[.slice A l c] 22 (0, 0))) (D2 : Nat → Prop) (h2 : TysAt w D2 sol A l c) : FnC 52 #[.pointer (some ⟨ps, 0, none⟩)] (selVar sol) w :=
  ⟨ent52, fun w' hw t D row h => applyF_any sol hnl ps A l c w' (below_look hw hps) D2 (h2.old hw) t D row h⟩
set_option maxHeartbeats 4000000 in
set_option maxRecDepth 100000 in
theorem Apply_any (sol : List Ty) (hnl : ∀ u, u ∈ sol → u.nodes ≤ 1000000) (t : Ty) (hn : t.nodes ≤ 1000000) (w : World) (D D2 : Nat → Prop) (row : Array Value) (h : TyAt w D t row) (A : Option Addr) (l c : Nat) (h2 : TysAt w D2 sol A l c) :
    Calls Tryd.prog 22 #[.agg row, .slice A l c] w (NewTy w (applyTy sol t)) := by
  have hmf : ∀ (fn : Fn) (first cap : Array Value) (w : World), (Instr.makeFunc fn first cap).run Tryd.prog w = .ok (.func fn first cap) w := fun _ _ _ _ => rfl
  obtain ⟨k, s, n, A1, l1, c1, ts, -, rfl, -⟩ := h.parts
  have HT := Lib.hid h
  have HN := Lib.hid hn
  have HNL := Lib.hid hnl
  have H2 := Lib.hid h2
  clear h hn hnl h2
  have hb := Below.refl w.heap.size w
  go_enter Tryd.func22, Tryd.ntmps22
  go_upto_region 0 with (fail)
  apply wp_region_lit
  (with_reducible refine wl_box rfl ?_); intro W p hbn hlp hp; replace hb := hb.trans (hbn.mono hb.size); clear hbn; simp only [put_lit, List.set_cons_zero, List.set_cons_succ]
  have lthpq := heap_lt hp; (with_reducible refine wl_box22 rfl ?_); intro W1 q hbn hlq hq; replace hp := below_look hbn hp; replace hb := hb.trans (hbn.mono hb.size); clear hbn; simp only [put_lit, List.set_cons_zero, List.set_cons_succ]
  have lthpr := heap_lt hp; have lthqr := heap_lt hq; (with_reducible refine wl_all ?_); intro W2 r hbn hlr hr; replace hp := below_look hbn hp; replace hq := below_look hbn hq; replace hb := hb.trans (hbn.mono hb.size); clear hbn; simp only [put_lit, List.set_cons_zero, List.set_cons_succ]
  have HC : Hid (Calls Tryd.prog 48 #[.agg (cell4 k s n A1 l1 c1), .func (.func 52) #[] #[.pointer (some ⟨q, 0, none⟩)]] W2 (NewTy W2 (applyTy sol t))) := Lib.hid (replaced_any (selVar sol) t HN.out 52 _ W2 (fnC_apply sol HNL.out q A l c W2 hq D2 (H2.out.old hb)) W2 (Below.refl _ _) D _ (HT.out.old hb))
  go_upto_region 1 with (fail)
  apply wp_region_lit
  (first | ((with_reducible apply wl_oneG); exact rfl; exact rfl; first | exact f0 (by with_reducible assumption) | exact f1 (by with_reducible assumption) | exact f2 (by with_reducible assumption) | exact f3 (by with_reducible assumption) | with_reducible assumption | exact g22 (by with_reducible assumption) | exact g25 (by with_reducible assumption)) | ((with_reducible apply wl_rowG); exact rfl; exact rfl; first | with_reducible assumption | exact RowK.now (by with_reducible assumption) | exact f4 (by with_reducible assumption)))
  (with_reducible refine wl_k ?_ ?_); exact rfl; intro K hK; go_simp; refine hK _ ?_; clear hK K
  (with_reducible refine wl_ck ?_ ?_); exact rfl; intro K hK; go_simp; refine ⟨_, _, ⟨rfl, rfl⟩, hK _ _ ⟨_, HC.out, ?_⟩⟩; clear hK K; rintro e w7 ⟨row7, rfl, hta7, hb7⟩; refine ⟨_, rfl, ?_⟩; simp only [put_lit, List.set_cons_zero, List.set_cons_succ]
  obtain ⟨k7, s7, n7, A7, l7, c7, ts7, hu7, rfl, -⟩ := hta7.parts
  have hlr' := heap_lt hr
  have HA := Lib.hid (hta7.weak (D' := fun b => w.heap.size ≤ b ∧ b ≠ r) fun b (hb : W2.heap.size ≤ b) => ⟨by have := hb; omega, by omega⟩)
  clear hta7 HC hu7 hp hq
  replace hr := below_look hb7 hr; replace hb := hb.trans (hb7.mono hb.size); clear hb7
  (with_reducible refine wl_put rfl rfl hr ?_); rw [put_noneA]; intro W3 hbx hsz hkx hnx; replace hb := hbx _ _ (by omega) hb; clear hr; have hr := hnx; clear hnx
  replace HA := Lib.hid (HA.out.mono (fun _ h => h) (fun b h => hkx b h.2))
  clear hbx hkx hsz
  have HQ := Lib.hid hr
  clear hr
  go_wp2_with fail
  exact bodyPost_ret (res24 rfl _ _ r rfl HQ.out) rfl ⟨_, rfl, HA.out.weak fun b h => h.1, hb⟩
theorem built24k (k : Int) : Tryd.prog.built 24 [(0, .int .i64 k)] = some (cell4 k ⟨#[]⟩ 0 none 0 0) := by kernel_rfl
/-- The type of a function. -/
def funTy (ps : List Ty) (t : Ty) : Ty := .node 10 ⟨#[]⟩ 0 (ps ++ [t])
set_option maxHeartbeats 4000000 in
set_option maxRecDepth 100000 in
theorem Func_any (ps : List Ty) (hnl : ∀ u, u ∈ ps → u.nodes ≤ 1000000) (hln : ps.length ≤ 1000000) (t : Ty) (hn : t.nodes ≤ 1000000) (w : World) (D D2 : Nat → Prop) (row : Array Value) (h : TyAt w D t row) (A : Option Addr) (l c : Nat) (h2 : TysAt w D2 ps A l c) :
    Calls Tryd.prog 24 #[.slice A l c, .agg row] w (NewTy w (funTy ps t)) := by
  obtain ⟨k, s, n, A1, l1, c1, ts, -, rfl, -⟩ := h.parts
  have HT := Lib.hid h2
  have HTA := Lib.hid h
  have HL := Lib.hid h2.len
  have hcm := h2.cap
  have hmx := h2.max
  unfold maxLen at hmx
  have hl6 : l ≤ 1000000 := by have := h2.len; omega
  have HNL := Lib.hid hnl
  have HN := Lib.hid hn
  clear h hnl h2 hln hn
  have hb := Below.refl w.heap.size w
  go_enter Tryd.func24, Tryd.ntmps24
  go_upto_region 0 with (fail)
  apply wp_region_lit
  (with_reducible refine wl_box rfl ?_); intro W p hbn hlp hp; replace hb := hb.trans (hbn.mono hb.size); clear hbn; simp only [put_lit, List.set_cons_zero, List.set_cons_succ]
  have lthpr := heap_lt hp; (with_reducible refine wl_all ?_); intro W2 r hbn hlr hr; replace hp := below_look hbn hp; replace hb := hb.trans (hbn.mono hb.size); clear hbn; simp only [put_lit, List.set_cons_zero, List.set_cons_succ]
  go_upto_region 1 with (fail)
  apply wp_region_lit
  refine wl_val rfl (ex_build 24 _ rfl (L := [(0, .int .i64 10)]) rfl (built24k 10)) ?_
  simp only [put_lit, List.set_cons_zero, List.set_cons_succ]
  have lthpo := heap_lt hp; have lthro := heap_lt hr; (with_reducible refine wl_all ?_); intro W3 o hbn hlo ho; replace hp := below_look hbn hp; replace hr := below_look hbn hr; replace hb := hb.trans (hbn.mono hb.size); clear hbn; simp only [put_lit, List.set_cons_zero, List.set_cons_succ]
  (with_reducible refine wl_put rfl rfl ho ?_); rw [put_noneA]; intro W7 hbx hsz hkx hnx; replace hp := (hkx _ (by omega)).trans hp; replace hr := (hkx _ (by omega)).trans hr; replace hb := hbx _ _ (by omega) hb; clear ho; have ho := hnx; clear hnx
  clear hbx hkx hsz
  have hlo2 := heap_lt ho
  have HO := Lib.hid (OwnT.nil W7 W7.heap.size)
  obtain ⟨B2, hB2⟩ : ∃ B2, B2 = W7.heap.size := ⟨_, rfl⟩
  rw [← hB2] at HO
  have hB3 : B2 ≤ W7.heap.size := by omega
  have hoB : o < B2 := by omega
  have hpB : p < B2 := by have := heap_lt hp; omega
  have hrB : r < B2 := by have := heap_lt hr; omega
  clear hB2 hlo2
  go_wp2_with fail
  go_loopw [13] (fun i wr => ∃ (j : Nat) (A' : Option Addr) (l' c' : Nat), j ≤ l ∧ i = .int .i64 (j : Int) ∧ Hid (OwnT wr B2 (.slice A' l' c') (ps.take j)) ∧ Below w.heap.size w wr ∧ B2 ≤ wr.heap.size ∧ wr.heap[p]? = some (.cells (cell4 k s n A1 l1 c1) 24 (0, 0)) ∧ wr.heap[r]? = some (.cells (cell4 0 ⟨#[]⟩ 0 none 0 0) 24 (0, 0)) ∧ wr.heap[o]? = some (.cells (cell4 10 ⟨#[]⟩ 0 A' l' c') 24 (0, 0))) (fun i _ => l - (intOf i).toNat)
  case atStart => exact ⟨0, none, 0, 0, by omega, rfl, HO, hb, hB3, hp, hr, ho⟩
  case round =>
    clear hb HO hp hr ho hB3
    obtain ⟨j, A2, l2, c2, hj, rfl, HO, hb, hB3, hp, hr, ho⟩ := hrel
    by_cases hlt : j < l
    · have hltI : (j : Int) < (l : Int) := by omega
      obtain ⟨b, off, u, row, rfl, -, ht, -⟩ := HT.out.get hlt
      obtain ⟨row, hrow, hta⟩ := (HT.out.old hb).rowK ht
      obtain ⟨k3, s3, n3, A3, l3, c3, ts3, ht3, rfl, -⟩ := hta.parts
      have HTB := Lib.hid hta
      have HTK : Hid (ps.take (j + 1) = ps.take j ++ [u]) := Lib.hid (by rw [List.take_add_one, ht]; rfl)
      have HLN : Hid ((ps.take j).length ≤ 1000000) := Lib.hid (by rw [List.length_take]; omega)
      have HM := Lib.hid (List.mem_of_getElem? ht)
      clear hta ht ht3
      have hz := Below.refl wr.heap.size wr
      have hBW := hB3
      go_upto_region 4 with (fail)
      apply wp_region_lit
      (with_reducible refine wl_k ?_ ?_); exact rfl; intro K hK; go_simp; refine hK _ ?_; clear hK K
      (first | ((with_reducible apply wl_oneG); exact rfl; exact rfl; first | exact f0 (by with_reducible assumption) | exact f1 (by with_reducible assumption) | exact f2 (by with_reducible assumption) | exact f3 (by with_reducible assumption) | with_reducible assumption | exact g22 (by with_reducible assumption) | exact g25 (by with_reducible assumption)) | ((with_reducible apply wl_rowG); exact rfl; exact rfl; first | with_reducible assumption | exact RowK.now (by with_reducible assumption) | exact f4 (by with_reducible assumption)))
      have lthpq := heap_lt hp; have lthrq := heap_lt hr; have lthoq := heap_lt ho; (with_reducible refine wl_all ?_); intro X1 q hbn hlq hq; replace hp := below_look hbn hp; replace hr := below_look hbn hr; replace ho := below_look hbn ho; replace hb := hb.trans (hbn.mono hb.size); replace hz := hz.trans (hbn.mono hz.size); clear hbn; simp only [put_lit, List.set_cons_zero, List.set_cons_succ]
      (with_reducible refine wl_put rfl rfl hq ?_); rw [put_noneA]; intro X2 hbx hsz hkx hnx; replace hp := (hkx _ (by omega)).trans hp; replace hr := (hkx _ (by omega)).trans hr; replace ho := (hkx _ (by omega)).trans ho; replace hb := hbx _ _ (by omega) hb; replace hz := hbx _ _ (by omega) hz; clear hq; have hq := hnx; clear hnx
      clear hbx hkx hsz
      have HC := Lib.hid (copied_any u (HNL.out u HM.out) X2 D2 _ (HTB.out.old hz))
      have hzs := hz.size
      clear hrow HM HTB
      go_upto_region 5 with (fail)
      apply wp_region_lit
      (first | ((with_reducible apply wl_oneG); exact rfl; exact rfl; first | exact f0 (by with_reducible assumption) | exact f1 (by with_reducible assumption) | exact f2 (by with_reducible assumption) | exact f3 (by with_reducible assumption) | with_reducible assumption | exact g22 (by with_reducible assumption) | exact g25 (by with_reducible assumption)) | ((with_reducible apply wl_rowG); exact rfl; exact rfl; first | with_reducible assumption | exact RowK.now (by with_reducible assumption) | exact f4 (by with_reducible assumption)))
      (with_reducible refine wl_ck ?_ ?_); exact rfl; intro K hK; go_simp; refine ⟨_, _, ⟨rfl, rfl⟩, hK _ _ ⟨_, HC.out, ?_⟩⟩; clear hK K; rintro e w7 ⟨row7, rfl, hta7, hb7⟩; refine ⟨_, rfl, ?_⟩; simp only [put_lit, List.set_cons_zero, List.set_cons_succ]
      obtain ⟨k7, s7, n7, A7, l7, c7, ts7, hu7, rfl, -⟩ := hta7.parts
      have HA7 := Lib.hid (HO.out.apart hB3 (hta7.weak (D' := fun b => wr.heap.size ≤ b) fun b (h : X2.heap.size ≤ b) => Nat.le_trans hz.size h))
      have hzz := hb7.size
      clear hta7 HC hu7 hq
      replace hp := below_look hb7 hp; replace hr := below_look hb7 hr; replace ho := below_look hb7 ho; replace hb := hb.trans (hb7.mono hb.size); replace hz := hz.trans (hb7.mono hz.size); clear hb7
      have hb8 := Below.refl w7.heap.size w7
      have lthpq2 := heap_lt hp; have lthrq2 := heap_lt hr; have lthoq2 := heap_lt ho; (with_reducible refine wl_all ?_); intro X3 q2 hbn hlq2 hq2; replace hp := below_look hbn hp; replace hr := below_look hbn hr; replace ho := below_look hbn ho; replace hb := hb.trans (hbn.mono hb.size); replace hz := hz.trans (hbn.mono hz.size); replace hb8 := hb8.trans (hbn.mono hb8.size); clear hbn; simp only [put_lit, List.set_cons_zero, List.set_cons_succ]
      (with_reducible refine wl_put rfl rfl hq2 ?_); rw [put_noneA]; intro X4 hbx hsz hkx hnx; replace hp := (hkx _ (by omega)).trans hp; replace hr := (hkx _ (by omega)).trans hr; replace ho := (hkx _ (by omega)).trans ho; replace hb := hbx _ _ (by omega) hb; replace hz := hbx _ _ (by omega) hz; replace hb8 := hbx _ _ (by omega) hb8; clear hq2; have hq2 := hnx; clear hnx
      clear hbx hkx hsz
      replace HA7 := Lib.hid (HA7.out.old hb8)
      replace HO := Lib.hid (HO.out.old hz)
      have hB4 := hz.size
      clear hb8 hz
      go_upto_region 6 with (fail)
      have hb8 := Below.refl X4.heap.size X4
      apply wp_region_lit
      (with_reducible refine wl_k ?_ ?_); exact rfl; intro K hK; go_simp; refine hK _ ?_; clear hK K
      (first | ((with_reducible apply wl_oneG); exact rfl; exact rfl; first | exact f0 (by with_reducible assumption) | exact f1 (by with_reducible assumption) | exact f2 (by with_reducible assumption) | exact f3 (by with_reducible assumption) | with_reducible assumption | exact g22 (by with_reducible assumption) | exact g25 (by with_reducible assumption)) | ((with_reducible apply wl_rowG); exact rfl; exact rfl; first | with_reducible assumption | exact RowK.now (by with_reducible assumption) | exact f4 (by with_reducible assumption)))
      (first | ((with_reducible apply wl_oneG); exact rfl; exact rfl; first | exact f0 (by with_reducible assumption) | exact f1 (by with_reducible assumption) | exact f2 (by with_reducible assumption) | exact f3 (by with_reducible assumption) | with_reducible assumption | exact g22 (by with_reducible assumption) | exact g25 (by with_reducible assumption)) | ((with_reducible apply wl_rowG); exact rfl; exact rfl; first | with_reducible assumption | exact RowK.now (by with_reducible assumption) | exact f4 (by with_reducible assumption)))
      have lthpq3 := heap_lt hp; have lthrq3 := heap_lt hr; have lthoq3 := heap_lt ho; (with_reducible refine wl_bs rfl ?_); intro X5 q3 hbn hlq3 hq3; replace hp := below_look hbn hp; replace hr := below_look hbn hr; replace ho := below_look hbn ho; replace hb := hb.trans (hbn.mono hb.size); replace hb8 := hb8.trans (hbn.mono hb8.size); clear hbn; simp only [put_lit, List.set_cons_zero, List.set_cons_succ]
      replace HA7 := Lib.hid (HA7.out.old hb8)
      replace HO := Lib.hid (HO.out.old hb8)
      have hB5 := hb8.size
      clear hb8
      refine wl_push rfl _ _ rfl rfl rfl HO.out HA7.out hq3 HLN.out (by omega) ?_
      intro A9 l9 c9 w9 hown hk9 hbl
      have HLT := Lib.hid HO.out.lt
      have hB7 := (hbl 0 X5 (fun _ _ => Nat.zero_le _) (Nat.zero_le _) (Below.refl 0 X5)).size
      replace hb := hbl _ _ (fun b hb => by have := (HLT.out b hb).1; omega) hb.size hb
      have hp5 := heap_lt hp
      have hr5 := heap_lt hr
      have ho5 := heap_lt ho
      replace hp := (hk9 p hp5 (fun e => by have := (HLT.out _ e).1; omega)).trans hp
      replace hr := (hk9 r hr5 (fun e => by have := (HLT.out _ e).1; omega)).trans hr
      replace ho := (hk9 o ho5 (fun e => by have := (HLT.out _ e).1; omega)).trans ho
      rw [← HTK.out] at hown
      replace HO := Lib.hid hown
      clear hown hk9 hbl HA7 hq3 HLT hp5 hr5 ho5 hq2
      simp only [put_lit, List.set_cons_zero, List.set_cons_succ]
      (with_reducible refine wl_k ?_ ?_); exact rfl; intro K hK; go_simp; refine hK _ ?_; clear hK K
      (with_reducible refine wl_put3 rfl rfl ho ?_); rw [put_noneA]; intro X6 hbx hsz hkx hnx; replace hp := (hkx _ (by omega)).trans hp; replace hr := (hkx _ (by omega)).trans hr; replace hb := hbx _ _ (by omega) hb; clear ho; have ho := hnx; clear hnx
      replace HO := Lib.hid (HO.out.same (w' := X6) (fun q hq _ => hkx q (by omega)))
      have hB6 : B2 ≤ X6.heap.size := by omega
      clear hbx hkx hsz
      go_wp2_with fail
      go_roundw
      case rel => exact ⟨j + 1, _, _, _, by omega, by go_num, HO, hb, hB6, hp, hr, ho⟩
      case measure => simp [intOf]; omega
    · have hltI : ¬ (j : Int) < (l : Int) := by omega
      replace HO : Hid (OwnT wr B2 (.slice A2 l2 c2) ps) := Lib.hid (by have := HO.out; rwa [List.take_of_length_le (by rw [HL.out]; omega)] at this)
      have HLN : Hid (ps.length ≤ 1000000) := Lib.hid (by rw [HL.out]; omega)
      have HC := Lib.hid (fun (w' : World) (hw : Below wr.heap.size wr w') => copied_any t HN.out w' D _ ((HTA.out.old hb).old hw))
      have hz := Below.refl wr.heap.size wr
      go_upto_region 8 with (fail)
      apply wp_region_lit
      (first | ((with_reducible apply wl_oneG); exact rfl; exact rfl; first | exact f0 (by with_reducible assumption) | exact f1 (by with_reducible assumption) | exact f2 (by with_reducible assumption) | exact f3 (by with_reducible assumption) | with_reducible assumption | exact g22 (by with_reducible assumption) | exact g25 (by with_reducible assumption)) | ((with_reducible apply wl_rowG); exact rfl; exact rfl; first | with_reducible assumption | exact RowK.now (by with_reducible assumption) | exact f4 (by with_reducible assumption)))
      (with_reducible refine wl_ck ?_ ?_); exact rfl; intro K hK; go_simp; refine ⟨_, _, ⟨rfl, rfl⟩, hK _ _ ⟨_, HC.out _ hz, ?_⟩⟩; clear hK K; rintro e w7 ⟨row7, rfl, hta7, hb7⟩; refine ⟨_, rfl, ?_⟩; simp only [put_lit, List.set_cons_zero, List.set_cons_succ]
      obtain ⟨k7, s7, n7, A7, l7, c7, ts7, hu7, rfl, -⟩ := hta7.parts
      have HA7 := Lib.hid (HO.out.apart hB3 hta7)
      have hzz := hb7.size
      clear hta7 HC hu7
      replace hp := below_look hb7 hp; replace hr := below_look hb7 hr; replace ho := below_look hb7 ho; replace hb := hb.trans (hb7.mono hb.size); replace hz := hz.trans (hb7.mono hz.size); clear hb7
      have hb8 := Below.refl w7.heap.size w7
      have lthpq2 := heap_lt hp; have lthrq2 := heap_lt hr; have lthoq2 := heap_lt ho; (with_reducible refine wl_all ?_); intro X3 q2 hbn hlq2 hq2; replace hp := below_look hbn hp; replace hr := below_look hbn hr; replace ho := below_look hbn ho; replace hb := hb.trans (hbn.mono hb.size); replace hz := hz.trans (hbn.mono hz.size); replace hb8 := hb8.trans (hbn.mono hb8.size); clear hbn; simp only [put_lit, List.set_cons_zero, List.set_cons_succ]
      (with_reducible refine wl_put rfl rfl hq2 ?_); rw [put_noneA]; intro X4 hbx hsz hkx hnx; replace hp := (hkx _ (by omega)).trans hp; replace hr := (hkx _ (by omega)).trans hr; replace ho := (hkx _ (by omega)).trans ho; replace hb := hbx _ _ (by omega) hb; replace hz := hbx _ _ (by omega) hz; replace hb8 := hbx _ _ (by omega) hb8; clear hq2; have hq2 := hnx; clear hnx
      clear hbx hkx hsz
      replace HA7 := Lib.hid (HA7.out.old hb8)
      replace HO := Lib.hid (HO.out.old hz)
      have hB4 := hz.size
      clear hb8 hz
      go_upto_region 9 with (fail)
      have hb8 := Below.refl X4.heap.size X4
      apply wp_region_lit
      (with_reducible refine wl_k ?_ ?_); exact rfl; intro K hK; go_simp; refine hK _ ?_; clear hK K
      (first | ((with_reducible apply wl_oneG); exact rfl; exact rfl; first | exact f0 (by with_reducible assumption) | exact f1 (by with_reducible assumption) | exact f2 (by with_reducible assumption) | exact f3 (by with_reducible assumption) | with_reducible assumption | exact g22 (by with_reducible assumption) | exact g25 (by with_reducible assumption)) | ((with_reducible apply wl_rowG); exact rfl; exact rfl; first | with_reducible assumption | exact RowK.now (by with_reducible assumption) | exact f4 (by with_reducible assumption)))
      (first | ((with_reducible apply wl_oneG); exact rfl; exact rfl; first | exact f0 (by with_reducible assumption) | exact f1 (by with_reducible assumption) | exact f2 (by with_reducible assumption) | exact f3 (by with_reducible assumption) | with_reducible assumption | exact g22 (by with_reducible assumption) | exact g25 (by with_reducible assumption)) | ((with_reducible apply wl_rowG); exact rfl; exact rfl; first | with_reducible assumption | exact RowK.now (by with_reducible assumption) | exact f4 (by with_reducible assumption)))
      have lthpq3 := heap_lt hp; have lthrq3 := heap_lt hr; have lthoq3 := heap_lt ho; (with_reducible refine wl_bs rfl ?_); intro X5 q3 hbn hlq3 hq3; replace hp := below_look hbn hp; replace hr := below_look hbn hr; replace ho := below_look hbn ho; replace hb := hb.trans (hbn.mono hb.size); replace hb8 := hb8.trans (hbn.mono hb8.size); clear hbn; simp only [put_lit, List.set_cons_zero, List.set_cons_succ]
      replace HA7 := Lib.hid (HA7.out.old hb8)
      replace HO := Lib.hid (HO.out.old hb8)
      have hB5 := hb8.size
      clear hb8
      refine wl_push rfl _ _ rfl rfl rfl HO.out HA7.out hq3 HLN.out (by omega) ?_
      intro A9 l9 c9 w9 hown hk9 hbl
      have HLT := Lib.hid HO.out.lt
      have hB7 := (hbl 0 X5 (fun _ _ => Nat.zero_le _) (Nat.zero_le _) (Below.refl 0 X5)).size
      replace hb := hbl _ _ (fun b hb => by have := (HLT.out b hb).1; omega) hb.size hb
      have hp5 := heap_lt hp
      have hr5 := heap_lt hr
      have ho5 := heap_lt ho
      replace hp := (hk9 p hp5 (fun e => by have := (HLT.out _ e).1; omega)).trans hp
      replace hr := (hk9 r hr5 (fun e => by have := (HLT.out _ e).1; omega)).trans hr
      replace ho := (hk9 o ho5 (fun e => by have := (HLT.out _ e).1; omega)).trans ho
      replace HO := Lib.hid hown
      clear hown hk9 hbl HA7 hq3 HLT hp5 hr5 ho5 hq2
      simp only [put_lit, List.set_cons_zero, List.set_cons_succ]
      (with_reducible refine wl_k ?_ ?_); exact rfl; intro K hK; go_simp; refine hK _ ?_; clear hK K
      (with_reducible refine wl_put3 rfl rfl ho ?_); rw [put_noneA]; intro X6 hbx hsz hkx hnx; replace hp := (hkx _ (by omega)).trans hp; replace hr := (hkx _ (by omega)).trans hr; replace hb := hbx _ _ (by omega) hb; clear ho; have ho := hnx; clear hnx
      replace HO := Lib.hid (HO.out.same (w' := X6) (fun q hq _ => hkx q (by omega)))
      clear hbx hkx hsz
      obtain ⟨A10, l10, c10, he, h9⟩ := HO.out.at
      cases he
      have H9 := Lib.hid h9
      clear h9 HO
      go_upto_region 10 with (fail)
      apply wp_region_lit
      (first | ((with_reducible apply wl_oneG); exact rfl; exact rfl; first | exact f0 (by with_reducible assumption) | exact f1 (by with_reducible assumption) | exact f2 (by with_reducible assumption) | exact f3 (by with_reducible assumption) | with_reducible assumption | exact g22 (by with_reducible assumption) | exact g25 (by with_reducible assumption)) | ((with_reducible apply wl_rowG); exact rfl; exact rfl; first | with_reducible assumption | exact RowK.now (by with_reducible assumption) | exact f4 (by with_reducible assumption)))
      (with_reducible refine wl_put rfl rfl hr ?_); rw [put_noneA]; intro W8 hbx hsz hkx hnx; replace hb := hbx _ _ (by omega) hb; clear hr; have hr := hnx; clear hnx
      replace H9 := Lib.hid (H9.out.mono (D' := fun b => w.heap.size ≤ b) (fun b (h : B2 ≤ b) => (by omega : w.heap.size ≤ b)) (fun b (h : B2 ≤ b) => hkx b (by omega)))
      clear hbx hkx hsz
      have HQ := Lib.hid hr
      clear hp hr ho
      go_wp2_with fail
      exact bodyPost_ret (res24 rfl _ _ r rfl HQ.out) rfl ⟨_, rfl, TyAt.of (by rfl) (by rfl) (Nat.zero_le _) H9.out, hb⟩
end Go.Proofs.YtokmaehefenpmaaDoor
