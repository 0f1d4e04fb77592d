/- Format, and 'awake'. -/
import Derived.Test.YtokmaehefenpmaaDoorV9
import Derived.Test.YtokmaehefenpmaaDoorW6
namespace Go.Proofs.YtokmaehefenpmaaDoor
open Go.RowKit Go.Proofs.YtokmaehefenpmaaDoor.Nm
set_option linter.unusedSimpArgs false
theorem ex_alloc74 {o : Oper} (ho : o.op = .alloc 74) (ev : Operand → Value) (w : World) : (execOp ev o).run Tryd.prog w = .ok (.value (.pointer (some ⟨w.heap.size, 0, none⟩))) (w.alloc (.cells #[.pointer none, .slice none 0 0] 74)) := by
  unfold execOp
  simp only [ho]
  kernel_rfl
theorem built76 (b : Nat) : Tryd.prog.built 76 [(0, .pointer (some ⟨b, 0, none⟩))] = some #[.pointer (some ⟨b, 0, none⟩)] := by kernel_rfl
theorem Bd_new (w : World) : Bd (w.alloc (.cells #[.pointer none, .slice none 0 0] 74)) w.heap.size w.heap.size [] :=
  Or.inl ⟨Nat.le_refl _, .slice none 0 0, ha_new rfl, World.ownsRowF_nil _ _ _ _, by simp [Value.ownBlock]⟩
set_option maxHeartbeats 4000000 in
set_option maxRecDepth 100000 in
/-- Format of a tree that is open. -/
theorem Format_ok (txt : Ty → List UInt8) (t : Ty) (w : World) (D : Nat → Prop) (row : Array Value) (h : TyAt w D t row) (hO : ∀ w' D', TyAt w' D' t row → Calls Tryd.prog 59 #[.agg row] w' fun e w2 => e = .returned (.bool true) ∧ Below w'.heap.size w' w2) (hC : TypC txt t) (hlen : (txt t).length ≤ 1000000000) :
    Calls Tryd.prog 33 #[.agg row] w fun e w' => e = .returned (.tuple #[.string ⟨(txt t).toArray⟩, .int .i64 0]) ∧ Below w.heap.size w w' := by
  obtain ⟨D, h, hlow⟩ : ∃ D : Nat → Prop, TyAt w D t row ∧ ∀ b, D b → b < w.heap.size := ⟨fun b => D b ∧ b < w.heap.size, h.low, fun b hb => hb.2⟩
  obtain ⟨k, s, n, A, l, c, ts, he, rfl, -⟩ := h.parts
  have HT := Lib.hid h
  have HLW := Lib.hid hlow
  have HO := Lib.hid hO
  have HTC := Lib.hid hC
  have HLN := Lib.hid hlen
  clear h hlow hO hC hlen he
  have hb := Below.refl w.heap.size w
  go_enter Tryd.func33, Tryd.ntmps33
  go_upto_region 0 with (fail)
  apply wp_region_lit
  (with_reducible refine wl_box rfl ?_); intro W p hbn hlp hp; replace hb := hb.trans (hbn.mono hb.size); clear hbn; simp only [put_lit, List.set_cons_zero, List.set_cons_succ]
  (with_reducible refine wl_k ?_ ?_); exact rfl; intro K hK; go_simp; refine hK _ ?_; clear hK K
  (with_reducible refine wl_k ?_ ?_); exact rfl; intro K hK; go_simp; refine hK _ ?_; clear hK K
  have HC := Lib.hid (HO.out W D (HT.out.old hb))
  go_upto_region 1 with (fail)
  apply wp_region_lit
  (first | ((with_reducible apply wl_oneG); exact rfl; exact rfl; first | exact f0 (by with_reducible assumption) | exact f1 (by with_reducible assumption) | exact f2 (by with_reducible assumption) | exact f3 (by with_reducible assumption) | with_reducible assumption | exact g22 (by with_reducible assumption) | exact g25 (by with_reducible assumption)) | ((with_reducible apply wl_rowG); exact rfl; exact rfl; first | with_reducible assumption | exact RowK.now (by with_reducible assumption) | exact f4 (by with_reducible assumption)))
  (with_reducible refine wl_ck ?_ ?_); exact rfl; intro K hK; go_simp; refine ⟨_, _, ⟨rfl, rfl⟩, hK _ _ ⟨_, HC.out, ?_⟩⟩; clear hK K; rintro e w6 ⟨rfl, hb6⟩; refine ⟨_, rfl, ?_⟩; simp only [put_lit, List.set_cons_zero, List.set_cons_succ]
  (with_reducible refine wl_k ?_ ?_); exact rfl; intro K hK; go_simp; refine hK _ ?_; clear hK K
  replace hp := below_look hb6 hp; replace hb := hb.trans (hb6.mono hb.size); clear hb6
  clear HC HO
  go_upto_region 3 with (fail)
  apply wp_region_lit
  refine wl_w rfl (ex_alloc74 rfl _ _) ?_
  simp only [put_lit, List.set_cons_zero, List.set_cons_succ]
  have HBd := Lib.hid (Bd_new w6)
  have hb7 := (Below.refl w6.heap.size w6).alloc (Nat.le_refl _) (.cells #[.pointer none, .slice none 0 0] 74)
  have hsz : w6.heap.size ≤ (w6.alloc (.cells #[.pointer none, .slice none 0 0] 74)).heap.size := hb7.size
  have hpl := heap_lt hp
  have hps := hb.size
  replace hp := below_look hb7 hp
  replace hb := hb.trans (hb7.mono hps)
  generalize hW : w6.alloc (.cells #[.pointer none, .slice none 0 0] 74) = W2 at *
  clear hW hb7
  obtain ⟨b, hbe⟩ : ∃ b, b = w6.heap.size := ⟨_, rfl⟩
  rw [← hbe] at HBd hsz ⊢
  have hbw : w.heap.size ≤ b := by omega
  clear hbe hpl hps
  have HC := Lib.hid (HTC.out W2 b b [] D _ HBd.out hsz (by simpa using HLN.out) (HT.out.old hb) (fun x hx => by have := HLW.out x hx; omega))
  go_upto_region 4 with (fail)
  apply wp_region_lit
  refine wl_val rfl (ex_build 76 _ rfl (L := [(0, .pointer (some ⟨b, 0, none⟩))]) rfl (built76 b)) ?_
  simp only [put_lit, List.set_cons_zero, List.set_cons_succ]
  (first | ((with_reducible apply wl_oneG); exact rfl; exact rfl; first | exact f0 (by with_reducible assumption) | exact f1 (by with_reducible assumption) | exact f2 (by with_reducible assumption) | exact f3 (by with_reducible assumption) | with_reducible assumption | exact g22 (by with_reducible assumption) | exact g25 (by with_reducible assumption)) | ((with_reducible apply wl_rowG); exact rfl; exact rfl; first | with_reducible assumption | exact RowK.now (by with_reducible assumption) | exact f4 (by with_reducible assumption)))
  (with_reducible refine wl_ck ?_ ?_); exact rfl; intro K hK; go_simp; refine ⟨_, _, ⟨rfl, rfl⟩, hK _ _ ⟨_, HC.out, ?_⟩⟩; clear hK K; rintro e w8 ⟨rfl, hbd8, hk8⟩; refine ⟨_, rfl, ?_⟩; simp only [put_lit, List.set_cons_zero, List.set_cons_succ]
  rw [List.nil_append] at hbd8
  replace hb := hb.trans (hk8.below.mono hbw)
  have hs8 := hk8.size
  have HS := Lib.hid (Tryd.Builder_String_any_k b b (txt t) w8 hbd8 (by omega))
  clear hbd8 hk8 HC hp HBd
  go_upto_region 5 with (fail)
  apply wp_region_lit
  (with_reducible refine wl_ck ?_ ?_); exact rfl; intro K hK; go_simp; refine ⟨_, _, ⟨rfl, rfl⟩, hK _ _ ⟨_, HS.out, ?_⟩⟩; clear hK K; rintro e w9 ⟨rfl, -, hb9, -⟩; refine ⟨_, rfl, ?_⟩; simp only [put_lit, List.set_cons_zero, List.set_cons_succ]
  (with_reducible refine wl_k ?_ ?_); exact rfl; intro K hK; go_simp; refine hK _ ?_; clear hK K
  (with_reducible refine wl_k ?_ ?_); exact rfl; intro K hK; go_simp; refine hK _ ?_; clear hK K
  replace hb := hb.trans (hb9.mono hbw)
  clear hb9 HS
  go_wp2_with fail
  go_ret2
  exact ⟨rfl, hb⟩
def textA (t : Ty) : List UInt8 := if t = arrTy then [65, 114, 114, 97, 121, 60, 73, 110, 116, 62] else [73, 110, 116]
theorem dig0 : (⟨(Lib.decDigits 0).toArray⟩ : ByteArray).size ≤ 100 := by simp [Lib.decDigits, ByteArray.size]
theorem typ_int : TypC textA intTy := typ_simple textA 1 ⟨#[]⟩ 0 [] 1 (by decide) rfl (by omega) dig0 (by decide) (fun t h => by cases h) rfl
theorem typ_arr : TypC textA arrTy := typ_simple textA 5 ⟨#[]⟩ 0 [intTy] 5 (by decide) rfl (by omega) dig0 (by decide) (fun t h => by simp at h; subst h; exact typ_int) rfl
theorem open_arr (w : World) (D : Nat → Prop) (row : Array Value) (h : TyAt w D arrTy row) : Calls Tryd.prog 59 #[.agg row] w fun e w2 => e = .returned (.bool true) ∧ Below w.heap.size w w2 :=
  Open_any (fun _ => true) Two (fun t ht => two_sh true t ht) two_sub arrTy (Or.inr rfl) w D row h
theorem valid_int (w : World) (D : Nat → Prop) (row : Array Value) (h : TyAt w D intTy row) : Calls Tryd.prog 47 #[.agg row] w fun e w2 => e = .returned (.bool true) ∧ Below w.heap.size w w2 :=
  Valid_any (fun _ => true) Two (fun t ht => two_sh false t ht) two_sub intTy (Or.inl rfl) w D row h
theorem built24a (A : Option Addr) (l c : Nat) : Tryd.prog.built 24 [(0, .int .i64 5), (3, .slice A l c)] = some (cell4 5 ⟨#[]⟩ 0 A l c) := by kernel_rfl
set_option maxHeartbeats 4000000 in
set_option maxRecDepth 100000 in
theorem awake_any (w : World) : Calls Tryd.prog 19 #[] w fun e w' => e = .returned (.bool true) ∧ Below w.heap.size w w' := by
  have hb := Below.refl w.heap.size w
  go_enter Tryd.func19, Tryd.ntmps19
  go_upto_region 1 with (fail)
  apply wp_region_lit
  refine wl_val rfl (ex_build 24 _ rfl (L := [(0, .int .i64 1)]) rfl (built24k 1)) ?_
  simp only [put_lit, List.set_cons_zero, List.set_cons_succ]
  (with_reducible refine wl_bs rfl ?_); intro W p hbn hlp hp; replace hb := hb.trans (hbn.mono hb.size); clear hbn; simp only [put_lit, List.set_cons_zero, List.set_cons_succ]
  refine wl_val rfl (ex_build 24 _ rfl (L := [(0, .int .i64 5), (3, .slice (some ⟨p, 0, none⟩) 1 1)]) rfl (built24a _ _ _)) ?_
  simp only [put_lit, List.set_cons_zero, List.set_cons_succ]
  have hint : ∀ w', TyAt w' Any intTy (cell4 1 ⟨#[]⟩ 0 none 0 0) := fun w' => TyAt.of (by rfl) (by rfl) (Nat.zero_le _) (TysAt.nil _ _)
  have hT : TysAt W Any [intTy] (some ⟨p, 0, none⟩) 1 1 := ⟨rfl, Nat.le_refl _, by unfold maxLen; omega, fun _ => cell4 1 ⟨#[]⟩ 0 none 0 0, fun i t ht => by
    cases i with
    | zero => exact ⟨p, 0, _, 24, (0, 0), rfl, trivial, hp, by rfl⟩
    | succ i => simp at ht, fun i t ht => by
    cases i with
    | zero => simp at ht; subst ht; exact hint W
    | succ i => simp at ht⟩
  have hA : TyAt W Any arrTy (cell4 5 ⟨#[]⟩ 0 (some ⟨p, 0, none⟩) 1 1) := TyAt.of (by rfl) (by rfl) (Nat.zero_le _) hT
  have HC := Lib.hid (Format_ok textA arrTy W Any _ hA (fun w' D' h => open_arr w' D' _ h) typ_arr (by decide))
  have HI := Lib.hid hint
  clear hint hT hA hp
  (with_reducible refine wl_ck ?_ ?_); exact rfl; intro K hK; go_simp; refine ⟨_, _, ⟨rfl, rfl⟩, hK _ _ ⟨_, HC.out, ?_⟩⟩; clear hK K; rintro e w6 ⟨rfl, hb6⟩; refine ⟨_, rfl, ?_⟩; simp only [put_lit, List.set_cons_zero, List.set_cons_succ]
  replace hb := hb.trans (hb6.mono hb.size); clear hb6
  (with_reducible refine wl_k ?_ ?_); exact rfl; intro K hK; go_simp; refine hK _ ?_; clear hK K
  (with_reducible refine wl_k ?_ ?_); exact rfl; intro K hK; go_simp; refine hK _ ?_; clear hK K
  (with_reducible refine wl_k ?_ ?_); exact rfl; intro K hK; go_simp; refine hK _ ?_; clear hK K
  (with_reducible refine wl_k ?_ ?_); exact rfl; intro K hK; go_simp; refine hK _ ?_; clear hK K
  (with_reducible refine wl_k ?_ ?_); exact rfl; intro K hK; go_simp; refine hK _ ?_; clear hK K
  have HV := Lib.hid (valid_int w6 Any _ (HI.out w6))
  have e1 : (textA arrTy) = [65, 114, 114, 97, 121, 60, 73, 110, 116, 62] := rfl
  rw [e1]
  clear e1 HC HI
  go_upto_region 2 with (fail)
  apply wp_region_lit
  (with_reducible refine wl_k ?_ ?_); exact rfl; intro K hK; go_simp; refine hK _ ?_; clear hK K
  (with_reducible refine wl_k ?_ ?_); exact rfl; intro K hK; go_simp; refine hK _ ?_; clear hK K
  (with_reducible refine wl_k ?_ ?_); exact rfl; intro K hK; go_simp; refine hK _ ?_; clear hK K
  (with_reducible refine wl_k ?_ ?_); exact rfl; intro K hK; go_simp; refine hK _ ?_; clear hK K
  (with_reducible refine wl_k ?_ ?_); exact rfl; intro K hK; go_simp; refine hK _ ?_; clear hK K
  (with_reducible refine wl_k ?_ ?_); exact rfl; intro K hK; go_simp; refine hK _ ?_; clear hK K
  (with_reducible refine wl_k ?_ ?_); exact rfl; intro K hK; go_simp; refine hK _ ?_; clear hK K
  refine wl_k rfl (fun K hK => ⟨_, ex_build 24 _ rfl (L := [(0, .int .i64 1)]) rfl (built24k 1), hK _ ?_⟩); clear hK K
  simp only [put_lit, List.set_cons_zero, List.set_cons_succ]
  (with_reducible refine wl_ck ?_ ?_); exact rfl; intro K hK; go_simp; refine ⟨_, _, ⟨rfl, rfl⟩, hK _ _ ⟨_, HV.out, ?_⟩⟩; clear hK K; rintro e w7 ⟨rfl, hb7⟩; refine ⟨_, rfl, ?_⟩; simp only [put_lit, List.set_cons_zero, List.set_cons_succ]
  (with_reducible refine wl_k ?_ ?_); exact rfl; intro K hK; go_simp; refine hK _ ?_; clear hK K
  (with_reducible refine wl_k ?_ ?_); exact rfl; intro K hK; go_simp; refine hK _ ?_; clear hK K
  replace hb := hb.trans (hb7.mono hb.size); clear hb7
  clear HV
  go_wp2_with fail
  go_ret
  exact ⟨rfl, hb⟩
end Go.Proofs.YtokmaehefenpmaaDoor
