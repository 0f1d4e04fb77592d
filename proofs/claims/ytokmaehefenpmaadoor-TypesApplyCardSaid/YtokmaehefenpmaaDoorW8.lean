/- The document's Func. -/
import Derived.Test.YtokmaehefenpmaaDoorW6
import Derived.Test.YtokmaehefenpmaaDoorA3
namespace Go.Proofs.YtokmaehefenpmaaDoor
open Go.RowKit Go.Proofs.YtokmaehefenpmaaDoor.Nm
set_option linter.unusedSimpArgs false
theorem built24f (A : Option Addr) (l c : Nat) : Tryd.prog.built 24 [(0, .int .i64 10), (3, .slice A l c)] = some (cell4 10 ⟨#[]⟩ 0 A l c) := by kernel_rfl
set_option maxHeartbeats 4000000 in
set_option maxRecDepth 100000 in
theorem FuncI_any (ps : List Ty) (hnl : nodesL ps ≤ 1000000) (t : Ty) (hn : t.nodes ≤ 1000000) (w : World) (D D2 : Nat → Prop) (row : Array Value) (h : TyAt w D t row) (A : Option Addr) (l c : Nat) (h2 : TysAt w D2 ps A l c) :
    Calls Tryd.prog 25 #[.slice A l c, .agg row] w (NewTy w (funTy ps t)) := by
  obtain ⟨k, s, n, A1, l1, c1, ts, -, rfl, -⟩ := h.parts
  have HT := Lib.hid h
  have H2 := Lib.hid h2
  have HLN := Lib.hid (show ps.length ≤ 1000000 by have := len_nodesL ps; omega)
  have HN := Lib.hid hn
  have HNL := Lib.hid hnl
  clear h h2 hn hnl
  have hb := Below.refl w.heap.size w
  go_enter Tryd.func25, Tryd.ntmps25
  go_upto_region 0 with (fail)
  apply wp_region_lit
  (with_reducible refine wl_box rfl ?_); intro W p hbn hlp hp; replace hb := hb.trans (hbn.mono hb.size); clear hbn; simp only [put_lit, List.set_cons_zero, List.set_cons_succ]
  have lthpr := heap_lt hp; (with_reducible refine wl_all ?_); intro wr r hbn hlr hr; replace hp := below_look hbn hp; replace hb := hb.trans (hbn.mono hb.size); clear hbn; simp only [put_lit, List.set_cons_zero, List.set_cons_succ]
  have hlr' := heap_lt hr
  have hle : r ≤ wr.heap.size := by omega
  have hpr : p < r := by omega
  have hz : Below wr.heap.size wr wr.drew := (Below.refl _ _).drew
  have HC1 : Hid (∀ w', Below r wr w' → Calls Tryd.prog 54 #[.slice A l c] w' (NewOwn w' ps)) := Lib.hid fun w' hw' => CopyTypes_any ps HNL.out A l c w' D2 (H2.out.old (hb.trans (hw'.mono (by omega))))
  have HC2 : Hid (∀ w', Below r wr w' → Calls Tryd.prog 53 #[.agg (cell4 k s n A1 l1 c1)] w' (NewTy w' t)) := Lib.hid fun w' hw' => CopyType_any t HN.out w' D _ (HT.out.old (hb.trans (hw'.mono (by omega))))
  go_upto_region 1 with (fail)
  refine wp_region_held_drew (S := Below r wr) mixed ((Below.refl r wr).drew) (fun hS => ?_)
  refine ha_k (i := 0) rfl (by kernel_rfl) (by kernel_rfl) (by kernel_rfl) (fun _ _ _ _ h => h) hS rfl (fun K hK => ?_); go_simp; refine hK _ ?_; clear hK K; try simp only [put_lit, List.set_cons_zero, List.set_cons_succ]
  refine ha_val (i := 2) rfl (by kernel_rfl) (by kernel_rfl) (by kernel_rfl) (fun _ _ _ h => h) hS rfl (fun w' hw' => ex_row rfl (f4 ((hw'.block p hpr).trans hp))) ?_; try simp only [put_lit, List.set_cons_zero, List.set_cons_succ]
  clear hS
  refine ha_call (i := 1) (by kernel_rfl) rfl rfl (fun K hK => ?_)
  go_simp; refine ⟨_, _, ⟨rfl, rfl⟩, hK _ _ ⟨_, HC1.out _ (hz.mono hle), ?_⟩⟩; clear hK K; rintro e w6 ⟨A6, l6, c6, rfl, hown6, hb6⟩; refine ⟨_, rfl, (hz.trans (hb6.mono hz.size)).mono hle, ?_⟩
  have HO := Lib.hid hown6
  have hB2 := hz.size
  replace hz := hz.trans (hb6.mono hz.size)
  clear hown6
  try simp only [put_lit, List.set_cons_zero, List.set_cons_succ]
  refine ha_call (i := 3) (by kernel_rfl) rfl rfl (fun K hK => ?_)
  go_simp; refine ⟨_, _, ⟨rfl, rfl⟩, hK _ _ ⟨_, HC2.out _ (hz.mono hle), ?_⟩⟩; clear hK K; rintro e w7 ⟨row7, rfl, hta7, hb7⟩; refine ⟨_, rfl, (hz.trans (hb7.mono hz.size)).mono hle, ?_⟩
  obtain ⟨k7, s7, n7, A7, l7, c7, ts7, hu7, rfl, -⟩ := hta7.parts
  have HA7 := Lib.hid (HO.out.apart hb6.size hta7)
  replace HO := Lib.hid (HO.out.old hb7)
  have hB3 := hz.size
  replace hz := hz.trans (hb7.mono hz.size)
  clear hta7 hu7
  have hs67 := hb6.size
  have hs77 := hb7.size
  clear hb6 hb7
  try simp only [put_lit, List.set_cons_zero, List.set_cons_succ]
  refine ha_bs (i := 4) (by kernel_rfl) rfl rfl _ rfl rfl (fun W hW => (hz.trans (hW.mono hz.size)).mono hle) ?_
  intro X5 q3 hbn hlq3 hq3 hS5
  replace HA7 := Lib.hid (HA7.out.old hbn)
  replace HO := Lib.hid (HO.out.old hbn)
  replace hz := hz.trans (hbn.mono hz.size)
  have hs55 := hbn.size
  clear hbn hS5
  try simp only [put_lit, List.set_cons_zero, List.set_cons_succ]
  have hlr2 : wr.drew.heap.size = wr.heap.size := rfl
  refine ha_push (i := 5) (by kernel_rfl) rfl rfl _ _ rfl rfl rfl HO.out HA7.out hq3 HLN.out (by omega) (fun w' hbl => hbl r wr (fun b hb => by have := (HO.out.lt b hb).1; omega) (by omega) (hz.mono hle)) ?_
  intro A9 l9 c9 w9 hown hk9 hbl hS
  have HLT := Lib.hid HO.out.lt
  replace hb := hbl _ _ (fun b hb => by have := (HLT.out b hb).1; omega) (by omega) (hb.trans (hz.mono hb.size))
  replace hr := (hk9 r (by omega) (fun e => by have := (HLT.out _ e).1; omega)).trans ((hz.block r (by omega)).trans hr)
  have HO2 := Lib.hid hown
  clear hown hk9 hbl HA7 hq3 HLT
  try simp only [put_lit, List.set_cons_zero, List.set_cons_succ]
  refine ha_val (i := 6) rfl (by kernel_rfl) (by kernel_rfl) (by kernel_rfl) (fun _ _ _ h => h) hS rfl (fun w' hw' => ex_build 24 _ rfl (L := [(0, .int .i64 10), (3, .slice A9 l9 c9)]) rfl (built24f A9 l9 c9)) ?_; try simp only [put_lit, List.set_cons_zero, List.set_cons_succ]
  refine ha_put (i := 7) (by kernel_rfl) rfl rfl _ _ rfl rfl rfl hr (fun W hW => hW _ _ (Nat.le_refl _) hS) ?_
  intro X6 hbx hsz hkx hnx hS6
  replace hb := hbx _ _ (by omega) hb
  obtain ⟨A10, l10, c10, he, h9⟩ := HO2.out.at
  cases he
  have H9 := Lib.hid (h9.mono (w' := X6) (D' := fun b => w.heap.size ≤ b) (fun b (h : wr.drew.heap.size ≤ b) => (by omega : w.heap.size ≤ b)) (fun b (h : wr.drew.heap.size ≤ b) => hkx b (by omega)))
  have HQ := Lib.hid hnx
  clear hp hr h9 HO HO2 hkx hbx hnx hS hS6 hsz hz
  refine wpAnyH_done (by kernel_rfl) ?_ _
  go_wp2_with fail
  exact bodyPost_ret (res24 rfl _ _ r rfl HQ.out) rfl ⟨_, rfl, TyAt.of (by rfl) (by rfl) (Nat.zero_le _) H9.out, hb⟩
end Go.Proofs.YtokmaehefenpmaaDoor
