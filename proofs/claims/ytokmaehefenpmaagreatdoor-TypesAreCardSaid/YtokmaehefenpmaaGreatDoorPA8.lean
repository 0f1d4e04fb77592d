/- Format, and 'awake'. The document's Number, Open. For the law TypesTwice: substitutions in memory; sizes; which names are good. What the rows of this seat share: trees taken out of a row's input; the condition on the tables. The document's Size and Concrete; the program's Concrete. EqStrings and EqInts at lists that are the same. TypesAre: the law function answers true. -/
import Derived.Laws.IdiomStrings
import Derived.Test.YtokmaehefenpmaaGreatDoorRows
import Derived.Test.YtokmaehefenpmaaGreatDoorTie
import Derived.ProofKit
import Derived.LaidMore
import Derived.OpenShut
import Derived.Stop.Joined
import Derived.SevenTiedAt
import Derived.Test.YtokmaehefenpmaaGreatDoorPA7
import Derived.Test.YtokmaehefenpmaaGreatDoorPA5
import Derived.Test.YtokmaehefenpmaaGreatDoorPA1
import Derived.Test.YtokmaehefenpmaaGreatDoorPA2
import Derived.Test.YtokmaehefenpmaaGreatDoorPA6
import Derived.Deep.DeepCutAuto
import Derived.Test.YtokmaehefenpmaaGreatDoorPA4
namespace Go.Proofs.YtokmaehefenpmaaGreatDoor
open Go.RowKit Go.Proofs.YtokmaehefenpmaaGreatDoor.Nm
set_option linter.unusedSimpArgs false
theorem ex_alloc74 {o : Oper} (ho : o.op = .alloc 51) (ev : Operand → Value) (w : World) : (execOp ev o).run Tryz.prog w = .ok (.value (.pointer (some ⟨w.heap.size, 0, none⟩))) (w.alloc (.cells #[.pointer none, .slice none 0 0] 51)) := by
  unfold execOp
  simp only [ho]
  kernel_rfl
theorem built76 (b : Nat) : Tryz.prog.built 53 [(0, .pointer (some ⟨b, 0, none⟩))] = some #[.pointer (some ⟨b, 0, none⟩)] := by kernel_rfl
theorem Bd_new (w : World) : Bd (w.alloc (.cells #[.pointer none, .slice none 0 0] 51)) w.heap.size w.heap.size [] :=
  Or.inl ⟨Nat.le_refl _, .slice none 0 0, ha_new rfl, World.ownsRowF_nil _ _ _ _, by simp [Value.ownBlock]⟩
set_option maxHeartbeats 4000000 in
set_option maxRecDepth 100000 in
/-- Format of a tree that is open. -/
theorem Format_ok (txt : Ty → List UInt8) (t : Ty) (w : World) (D : Nat → Prop) (row : Array Value) (h : TyAt w D t row) (hO : ∀ w' D', TyAt w' D' t row → Calls Tryz.prog 7 #[.agg row] w' fun e w2 => e = .returned (.bool true) ∧ Below w'.heap.size w' w2) (hC : TypC txt t) (hlen : (txt t).length ≤ 1000000000) :
    Calls Tryz.prog 32 #[.agg row] w fun e w' => e = .returned (.tuple #[.string ⟨(txt t).toArray⟩, .int .i64 0]) ∧ Below w.heap.size w w' := by
  obtain ⟨D, h, hlow⟩ : ∃ D : Nat → Prop, TyAt w D t row ∧ ∀ b, D b → b < w.heap.size := ⟨fun b => D b ∧ b < w.heap.size, h.low, fun b hb => hb.2⟩
  obtain ⟨k, s, n, A, l, c, ts, he, rfl, -⟩ := h.parts
  have HT := Lib.hid h
  have HLW := Lib.hid hlow
  have HO := Lib.hid hO
  have HTC := Lib.hid hC
  have HLN := Lib.hid hlen
  clear h hlow hO hC hlen he
  have hb := Below.refl w.heap.size w
  go_enter Tryz.func32, Tryz.ntmps32
  go_upto_region 0 with (fail)
  apply wp_region_lit
  (with_reducible refine wl_box rfl ?_); intro W p hbn hlp hp; replace hb := hb.trans (hbn.mono hb.size); clear hbn; simp only [put_lit, List.set_cons_zero, List.set_cons_succ]
  (with_reducible refine wl_k ?_ ?_); exact rfl; intro K hK; go_simp; refine hK _ ?_; clear hK K
  (with_reducible refine wl_k ?_ ?_); exact rfl; intro K hK; go_simp; refine hK _ ?_; clear hK K
  have HC := Lib.hid (HO.out W D (HT.out.old hb))
  go_upto_region 1 with (fail)
  apply wp_region_lit
  (first | ((with_reducible apply wl_oneG); exact rfl; exact rfl; first | exact f0 (by with_reducible assumption) | exact f1 (by with_reducible assumption) | exact f2 (by with_reducible assumption) | exact f3 (by with_reducible assumption) | with_reducible assumption | exact g22 (by with_reducible assumption) | exact g25 (by with_reducible assumption)) | ((with_reducible apply wl_rowG); exact rfl; exact rfl; first | with_reducible assumption | exact RowK.now (by with_reducible assumption) | exact f4 (by with_reducible assumption)))
  (with_reducible refine wl_ck ?_ ?_); exact rfl; intro K hK; go_simp; refine ⟨_, _, ⟨rfl, rfl⟩, hK _ _ ⟨_, HC.out, ?_⟩⟩; clear hK K; rintro e w6 ⟨rfl, hb6⟩; refine ⟨_, rfl, ?_⟩; simp only [put_lit, List.set_cons_zero, List.set_cons_succ]
  (with_reducible refine wl_k ?_ ?_); exact rfl; intro K hK; go_simp; refine hK _ ?_; clear hK K
  replace hp := below_look hb6 hp; replace hb := hb.trans (hb6.mono hb.size); clear hb6
  clear HC HO
  go_upto_region 3 with (fail)
  apply wp_region_lit
  refine wl_w rfl (ex_alloc74 rfl _ _) ?_
  simp only [put_lit, List.set_cons_zero, List.set_cons_succ]
  have HBd := Lib.hid (Bd_new w6)
  have hb7 := (Below.refl w6.heap.size w6).alloc (Nat.le_refl _) (.cells #[.pointer none, .slice none 0 0] 51)
  have hsz : w6.heap.size ≤ (w6.alloc (.cells #[.pointer none, .slice none 0 0] 51)).heap.size := hb7.size
  have hpl := heap_lt hp
  have hps := hb.size
  replace hp := below_look hb7 hp
  replace hb := hb.trans (hb7.mono hps)
  generalize hW : w6.alloc (.cells #[.pointer none, .slice none 0 0] 51) = W2 at *
  clear hW hb7
  obtain ⟨b, hbe⟩ : ∃ b, b = w6.heap.size := ⟨_, rfl⟩
  rw [← hbe] at HBd hsz ⊢
  have hbw : w.heap.size ≤ b := by omega
  clear hbe hpl hps
  have HC := Lib.hid (HTC.out W2 b b [] D _ HBd.out hsz (by simpa using HLN.out) (HT.out.old hb) (fun x hx => by have := HLW.out x hx; omega))
  go_upto_region 4 with (fail)
  apply wp_region_lit
  refine wl_val rfl (ex_build 53 _ rfl (L := [(0, .pointer (some ⟨b, 0, none⟩))]) rfl (built76 b)) ?_
  simp only [put_lit, List.set_cons_zero, List.set_cons_succ]
  (first | ((with_reducible apply wl_oneG); exact rfl; exact rfl; first | exact f0 (by with_reducible assumption) | exact f1 (by with_reducible assumption) | exact f2 (by with_reducible assumption) | exact f3 (by with_reducible assumption) | with_reducible assumption | exact g22 (by with_reducible assumption) | exact g25 (by with_reducible assumption)) | ((with_reducible apply wl_rowG); exact rfl; exact rfl; first | with_reducible assumption | exact RowK.now (by with_reducible assumption) | exact f4 (by with_reducible assumption)))
  (with_reducible refine wl_ck ?_ ?_); exact rfl; intro K hK; go_simp; refine ⟨_, _, ⟨rfl, rfl⟩, hK _ _ ⟨_, HC.out, ?_⟩⟩; clear hK K; rintro e w8 ⟨rfl, hbd8, hk8⟩; refine ⟨_, rfl, ?_⟩; simp only [put_lit, List.set_cons_zero, List.set_cons_succ]
  rw [List.nil_append] at hbd8
  replace hb := hb.trans (hk8.below.mono hbw)
  have hs8 := hk8.size
  have HS := Lib.hid (Tryz.Builder_String_any_k b b (txt t) w8 hbd8 (by omega))
  clear hbd8 hk8 HC hp HBd
  go_upto_region 5 with (fail)
  apply wp_region_lit
  (with_reducible refine wl_ck ?_ ?_); exact rfl; intro K hK; go_simp; refine ⟨_, _, ⟨rfl, rfl⟩, hK _ _ ⟨_, HS.out, ?_⟩⟩; clear hK K; rintro e w9 ⟨rfl, -, hb9, -⟩; refine ⟨_, rfl, ?_⟩; simp only [put_lit, List.set_cons_zero, List.set_cons_succ]
  (with_reducible refine wl_k ?_ ?_); exact rfl; intro K hK; go_simp; refine hK _ ?_; clear hK K
  (with_reducible refine wl_k ?_ ?_); exact rfl; intro K hK; go_simp; refine hK _ ?_; clear hK K
  replace hb := hb.trans (hb9.mono hbw)
  clear hb9 HS
  go_wp2_with fail
  go_ret2
  exact ⟨rfl, hb⟩
def textA (t : Ty) : List UInt8 := if t = arrTy then [65, 114, 114, 97, 121, 60, 73, 110, 116, 62] else [73, 110, 116]
theorem dig0 : (⟨(Lib.decDigits 0).toArray⟩ : ByteArray).size ≤ 100 := by simp [Lib.decDigits, ByteArray.size]
theorem typ_int : TypC textA intTy := typ_simple textA 1 ⟨#[]⟩ 0 [] 1 (by decide) rfl (by omega) dig0 (by decide) (fun t h => by cases h) rfl
theorem typ_arr : TypC textA arrTy := typ_simple textA 5 ⟨#[]⟩ 0 [intTy] 5 (by decide) rfl (by omega) dig0 (by decide) (fun t h => by simp at h; subst h; exact typ_int) rfl
theorem open_arr (w : World) (D : Nat → Prop) (row : Array Value) (h : TyAt w D arrTy row) : Calls Tryz.prog 7 #[.agg row] w fun e w2 => e = .returned (.bool true) ∧ Below w.heap.size w w2 :=
  Open_any (fun _ => true) Two (fun t ht => two_sh true t ht) two_sub arrTy (Or.inr rfl) w D row h
theorem valid_int (w : World) (D : Nat → Prop) (row : Array Value) (h : TyAt w D intTy row) : Calls Tryz.prog 5 #[.agg row] w fun e w2 => e = .returned (.bool true) ∧ Below w.heap.size w w2 :=
  Valid_any (fun _ => true) Two (fun t ht => two_sh false t ht) two_sub intTy (Or.inl rfl) w D row h
theorem built24a (A : Option Addr) (l c : Nat) : Tryz.prog.built 24 [(0, .int .i64 5), (3, .slice A l c)] = some (cell4 5 ⟨#[]⟩ 0 A l c) := by kernel_rfl
set_option maxHeartbeats 4000000 in
set_option maxRecDepth 100000 in
theorem awake_any (w : World) : Calls Tryz.prog 19 #[] w fun e w' => e = .returned (.bool true) ∧ Below w.heap.size w w' := by
  have hb := Below.refl w.heap.size w
  go_enter Tryz.func19, Tryz.ntmps19
  go_upto_region 1 with (fail)
  apply wp_region_lit
  refine wl_val rfl (ex_build 24 _ rfl (L := [(0, .int .i64 1)]) rfl (built24k 1)) ?_
  simp only [put_lit, List.set_cons_zero, List.set_cons_succ]
  (with_reducible refine wl_bs rfl ?_); intro W p hbn hlp hp; replace hb := hb.trans (hbn.mono hb.size); clear hbn; simp only [put_lit, List.set_cons_zero, List.set_cons_succ]
  refine wl_val rfl (ex_build 24 _ rfl (L := [(0, .int .i64 5), (3, .slice (some ⟨p, 0, none⟩) 1 1)]) rfl (built24a _ _ _)) ?_
  simp only [put_lit, List.set_cons_zero, List.set_cons_succ]
  have hint : ∀ w', TyAt w' Any intTy (cell4 1 ⟨#[]⟩ 0 none 0 0) := fun w' => TyAt.of (by rfl) (by rfl) (Nat.zero_le _) (TysAt.nil _ _)
  have hT : TysAt W Any [intTy] (some ⟨p, 0, none⟩) 1 1 := ⟨rfl, Nat.le_refl _, by unfold maxLen; omega, fun _ => cell4 1 ⟨#[]⟩ 0 none 0 0, fun i t ht => by
    cases i with
    | zero => exact ⟨p, 0, _, 24, (0, 0), rfl, trivial, hp, by rfl⟩
    | succ i => simp at ht, fun i t ht => by
    cases i with
    | zero => simp at ht; subst ht; exact hint W
    | succ i => simp at ht⟩
  have hA : TyAt W Any arrTy (cell4 5 ⟨#[]⟩ 0 (some ⟨p, 0, none⟩) 1 1) := TyAt.of (by rfl) (by rfl) (Nat.zero_le _) hT
  have HC := Lib.hid (Format_ok textA arrTy W Any _ hA (fun w' D' h => open_arr w' D' _ h) typ_arr (by decide))
  have HI := Lib.hid hint
  clear hint hT hA hp
  (with_reducible refine wl_ck ?_ ?_); exact rfl; intro K hK; go_simp; refine ⟨_, _, ⟨rfl, rfl⟩, hK _ _ ⟨_, HC.out, ?_⟩⟩; clear hK K; rintro e w6 ⟨rfl, hb6⟩; refine ⟨_, rfl, ?_⟩; simp only [put_lit, List.set_cons_zero, List.set_cons_succ]
  replace hb := hb.trans (hb6.mono hb.size); clear hb6
  (with_reducible refine wl_k ?_ ?_); exact rfl; intro K hK; go_simp; refine hK _ ?_; clear hK K
  (with_reducible refine wl_k ?_ ?_); exact rfl; intro K hK; go_simp; refine hK _ ?_; clear hK K
  (with_reducible refine wl_k ?_ ?_); exact rfl; intro K hK; go_simp; refine hK _ ?_; clear hK K
  (with_reducible refine wl_k ?_ ?_); exact rfl; intro K hK; go_simp; refine hK _ ?_; clear hK K
  (with_reducible refine wl_k ?_ ?_); exact rfl; intro K hK; go_simp; refine hK _ ?_; clear hK K
  have HV := Lib.hid (valid_int w6 Any _ (HI.out w6))
  have e1 : (textA arrTy) = [65, 114, 114, 97, 121, 60, 73, 110, 116, 62] := rfl
  rw [e1]
  clear e1 HC HI
  go_upto_region 2 with (fail)
  apply wp_region_lit
  (with_reducible refine wl_k ?_ ?_); exact rfl; intro K hK; go_simp; refine hK _ ?_; clear hK K
  (with_reducible refine wl_k ?_ ?_); exact rfl; intro K hK; go_simp; refine hK _ ?_; clear hK K
  (with_reducible refine wl_k ?_ ?_); exact rfl; intro K hK; go_simp; refine hK _ ?_; clear hK K
  (with_reducible refine wl_k ?_ ?_); exact rfl; intro K hK; go_simp; refine hK _ ?_; clear hK K
  (with_reducible refine wl_k ?_ ?_); exact rfl; intro K hK; go_simp; refine hK _ ?_; clear hK K
  (with_reducible refine wl_k ?_ ?_); exact rfl; intro K hK; go_simp; refine hK _ ?_; clear hK K
  (with_reducible refine wl_k ?_ ?_); exact rfl; intro K hK; go_simp; refine hK _ ?_; clear hK K
  refine wl_k rfl (fun K hK => ⟨_, ex_build 24 _ rfl (L := [(0, .int .i64 1)]) rfl (built24k 1), hK _ ?_⟩); clear hK K
  simp only [put_lit, List.set_cons_zero, List.set_cons_succ]
  (with_reducible refine wl_ck ?_ ?_); exact rfl; intro K hK; go_simp; refine ⟨_, _, ⟨rfl, rfl⟩, hK _ _ ⟨_, HV.out, ?_⟩⟩; clear hK K; rintro e w7 ⟨rfl, hb7⟩; refine ⟨_, rfl, ?_⟩; simp only [put_lit, List.set_cons_zero, List.set_cons_succ]
  (with_reducible refine wl_k ?_ ?_); exact rfl; intro K hK; go_simp; refine hK _ ?_; clear hK K
  (with_reducible refine wl_k ?_ ?_); exact rfl; intro K hK; go_simp; refine hK _ ?_; clear hK K
  replace hb := hb.trans (hb7.mono hb.size); clear hb7
  clear HV
  go_wp2_with fail
  go_ret
  exact ⟨rfl, hb⟩
end Go.Proofs.YtokmaehefenpmaaGreatDoor
namespace Go.Proofs.YtokmaehefenpmaaGreatDoor
open Go.RowKit Go.Proofs.YtokmaehefenpmaaGreatDoor.Nm
set_option linter.unusedSimpArgs false
set_option maxHeartbeats 2000000 in
set_option maxRecDepth 100000 in
theorem OpenI_any (t : Ty) (w : World) (D : Nat → Prop) (row : Array Value) (h : TyAt w D t row) :
    Calls Tryz.prog 8 #[.agg row] w fun e w' => e = .returned (.bool (validB true t)) ∧ Below w.heap.size w w' := by
  have HT := Lib.hid h
  obtain ⟨k, s, n, A, l, c, ts, he, rfl, -⟩ := h.parts
  clear h he
  have hb := Below.refl w.heap.size w
  go_enter Tryz.func8, Tryz.ntmps8
  go_upto_region 0 with (fail)
  apply wp_region_lit
  (with_reducible refine wl_box rfl ?_); intro W p hbn hlp hp; replace hb := hb.trans (hbn.mono hb.size); clear hbn; simp only [put_lit, List.set_cons_zero, List.set_cons_succ]
  (with_reducible refine wl_k ?_ ?_); exact rfl; intro K hK; go_simp; refine hK _ ?_; clear hK K
  have HC := Lib.hid (TypeNodes_any 40 (by omega) t W D _ (HT.out.old hb))
  go_upto_region 1 with (fail)
  by_cases hn : t.nodes ≤ 40
  · have e1 : ((min t.nodes (40 + 1) : Nat) : Int) ≤ 40 := by omega
    have HF : Hid (validB true t = t.all (nodeB true)) := Lib.hid (by unfold validB; rw [decide_eq_true hn]; rfl)
    clear hn
    apply wp_region_lit
    (first | ((with_reducible apply wl_oneG); exact rfl; exact rfl; first | exact f0 (by with_reducible assumption) | exact f1 (by with_reducible assumption) | exact f2 (by with_reducible assumption) | exact f3 (by with_reducible assumption) | with_reducible assumption | exact g22 (by with_reducible assumption) | exact g25 (by with_reducible assumption)) | ((with_reducible apply wl_rowG); exact rfl; exact rfl; first | with_reducible assumption | exact RowK.now (by with_reducible assumption) | exact f4 (by with_reducible assumption)))
    (with_reducible refine wl_ck ?_ ?_); exact rfl; intro K hK; go_simp; refine ⟨_, _, ⟨rfl, rfl⟩, hK _ _ ⟨_, HC.out, ?_⟩⟩; clear hK K; rintro e w7 ⟨rfl, hb7⟩; refine ⟨_, rfl, ?_⟩; simp only [put_lit, List.set_cons_zero, List.set_cons_succ]
    replace hp := below_look hb7 hp; replace hb := hb.trans (hb7.mono hb.size); clear hb7
    clear HC
    have HC := Lib.hid (all_any true t w7 D _ (HT.out.old hb))
    (with_reducible refine wl_k ?_ ?_); exact rfl; intro K hK; go_simp; refine hK _ ?_; clear hK K
    (with_reducible refine wl_k ?_ ?_); exact rfl; intro K hK; go_simp; refine hK _ ?_; clear hK K
    (first | ((with_reducible apply wl_oneG); exact rfl; exact rfl; first | exact f0 (by with_reducible assumption) | exact f1 (by with_reducible assumption) | exact f2 (by with_reducible assumption) | exact f3 (by with_reducible assumption) | with_reducible assumption | exact g22 (by with_reducible assumption) | exact g25 (by with_reducible assumption)) | ((with_reducible apply wl_rowG); exact rfl; exact rfl; first | with_reducible assumption | exact RowK.now (by with_reducible assumption) | exact f4 (by with_reducible assumption)))
    (with_reducible refine wl_ck ?_ ?_); exact rfl; intro K hK; go_simp; refine ⟨_, _, ⟨rfl, rfl⟩, hK _ _ ⟨_, HC.out, ?_⟩⟩; clear hK K; rintro e w8 ⟨rfl, hb8⟩; refine ⟨_, rfl, ?_⟩; simp only [put_lit, List.set_cons_zero, List.set_cons_succ]
    (with_reducible refine wl_k ?_ ?_); exact rfl; intro K hK; go_simp; refine hK _ ?_; clear hK K
    (with_reducible refine wl_k ?_ ?_); exact rfl; intro K hK; go_simp; refine hK _ ?_; clear hK K
    replace hp := below_look hb8 hp; replace hb := hb.trans (hb8.mono hb.size); clear hb8
    clear HC hp
    go_wp2_with fail
    go_ret
    exact ⟨by rw [HF.out]; rfl, hb⟩
  · have e1 : ¬ ((min t.nodes (40 + 1) : Nat) : Int) ≤ 40 := by omega
    have HF : Hid (validB true t = false) := Lib.hid (by unfold validB; rw [decide_eq_false hn]; rfl)
    clear hn
    apply wp_region_lit
    (first | ((with_reducible apply wl_oneG); exact rfl; exact rfl; first | exact f0 (by with_reducible assumption) | exact f1 (by with_reducible assumption) | exact f2 (by with_reducible assumption) | exact f3 (by with_reducible assumption) | with_reducible assumption | exact g22 (by with_reducible assumption) | exact g25 (by with_reducible assumption)) | ((with_reducible apply wl_rowG); exact rfl; exact rfl; first | with_reducible assumption | exact RowK.now (by with_reducible assumption) | exact f4 (by with_reducible assumption)))
    (with_reducible refine wl_ck ?_ ?_); exact rfl; intro K hK; go_simp; refine ⟨_, _, ⟨rfl, rfl⟩, hK _ _ ⟨_, HC.out, ?_⟩⟩; clear hK K; rintro e w7 ⟨rfl, hb7⟩; refine ⟨_, rfl, ?_⟩; simp only [put_lit, List.set_cons_zero, List.set_cons_succ]
    replace hp := below_look hb7 hp; replace hb := hb.trans (hb7.mono hb.size); clear hb7
    clear HC
    (with_reducible refine wl_k ?_ ?_); exact rfl; intro K hK; go_simp; refine hK _ ?_; clear hK K
    (with_reducible refine wl_k ?_ ?_); exact rfl; intro K hK; go_simp; refine hK _ ?_; clear hK K
    (first | ((with_reducible refine wl_skipU ?_ ?_ ?_); exact rfl; exact rfl) | ((with_reducible refine wl_skip ?_ ?_); exact rfl; simp only [put_lit, List.set_cons_zero, List.set_cons_succ]))
    (first | ((with_reducible refine wl_skipU ?_ ?_ ?_); exact rfl; exact rfl) | ((with_reducible refine wl_skip ?_ ?_); exact rfl; simp only [put_lit, List.set_cons_zero, List.set_cons_succ]))
    (with_reducible refine wl_k ?_ ?_); exact rfl; intro K hK; go_simp; refine hK _ ?_; clear hK K
    (with_reducible refine wl_k ?_ ?_); exact rfl; intro K hK; go_simp; refine hK _ ?_; clear hK K
    clear hp
    go_wp2_with fail
    go_ret
    exact ⟨by rw [HF.out]; rfl, hb⟩
end Go.Proofs.YtokmaehefenpmaaGreatDoor
namespace Go.Proofs.YtokmaehefenpmaaGreatDoor
open Go.RowKit Go.Proofs.YtokmaehefenpmaaGreatDoor.Nm
set_option linter.unusedSimpArgs false
def cell2 (An : Option Addr) (ln cn : Nat) (A : Option Addr) (l c : Nat) : Array Value := #[.slice An ln cn, .slice A l c]
section
variable {ops : Array Oper} {rest : List Oper} {dst : Option Tmp} {ty' : TypeId} {x : Operand} {pos : String} {after : Array Edge} {a : Act} {w : World} {Q : Exit → Act → World → Prop}
end
section
variable {w : World} {p : Nat} {An A : Option Addr} {ln cn l c : Nat} {t : TypeId} {fr : Nat × Nat}
theorem s1 (h : w.heap[p]? = some (.cells (cell2 An ln cn A l c) t fr)) : OneAt w 22 ⟨p, 1, none⟩ (.slice A l c) := one_of u22 rfl (by rw [cell_of_row _ _ _ _ _ _ h]; rfl)
end
end Go.Proofs.YtokmaehefenpmaaGreatDoor
namespace Go.Proofs.YtokmaehefenpmaaGreatDoor
open Go.ChangeShapes Go.WideShapes Go.ChangeAt Go.RowKit
theorem own0 : ownKnob Tryz.prog.godebug = none := by kernel_rfl
theorem row_u4 : Tryz.prog.underlying 4 = some .bool := by kernel_rfl
theorem laidOut0 : laidOutB Tryz.prog = true := by kernel_rfl
def lay3 : List (String × DataW Unit) := [("math/bits.deBruijn32tab", Rows.laid_math_bits_deBruijn32tab), ("math/bits.deBruijn64tab", Rows.laid_math_bits_deBruijn64tab), ("internal/strconv.uint64pow10", Rows.laid_internal_strconv_uint64pow10)]
theorem lay3_met (os : Os) (args : Array Value) : laidMetH Tryz.prog lay3 ((World.doorLaid Tryz.prog 62 os).forCall (fun _ _ => 0) ⟨#[], args, []⟩).memory :=
  laidMetH_of_parts3 (fuel := 8) (laidMet_of_run' 8 (by kernel_rfl) (by kernel_rfl)) (by kernel_rfl) (by kernel_rfl)
section
variable {H : Type} {enc : TypeId × Value → H} {w : World} {sp : Nat → Bool} {held : Bool} {r : Reach} {b0 base : Nat} {v : Value} {d : DataW H} {p : List MemPlace}
set_option maxRecDepth 100000 in
theorem open_ty (hv : Value.okWide Tryz.prog w r b0 24 v) (h : DataW.Trod enc Tryz.prog w base sp held 24 v d p) : ∃ row t, v = .agg row ∧ TyAt w (fun b => base ≤ b) t row := by
  obtain ⟨cs, rfl, _⟩ := okWide_struct u24 hv
  obtain ⟨fuel, hf⟩ := h
  obtain ⟨t, ht⟩ := open_tree tyNums fuel _ _ hf
  exact ⟨cs, t, rfl, by simpa [Value.cells] using ht⟩
end
end Go.Proofs.YtokmaehefenpmaaGreatDoor
namespace Go.Proofs.YtokmaehefenpmaaGreatDoor
open Go.RowKit Go.Proofs.YtokmaehefenpmaaGreatDoor.Nm
set_option linter.unusedSimpArgs false
theorem calls_class {P : Program} {f : FuncId} {args : Array Value} {W w : World} {v : Value} (hw : Below W.heap.size W w) (h : Calls P f args w fun e w' => e = .returned v ∧ Below w.heap.size w w') :
    Calls P f args w fun e w' => e = .returned v ∧ Below W.heap.size W w' := h.mono fun _ _ ⟨he, hb⟩ => ⟨he, hw.trans (hb.mono hw.size)⟩
def SizeC (t : Ty) : Prop := t.nodes ≤ 1000000 → ∀ (w : World) (D : Nat → Prop) (row : Array Value), TyAt w D t row →
  Calls Tryz.prog 10 #[.agg row] w fun e w' => e = .returned (.int .i64 (t.nodes : Int)) ∧ Below w.heap.size w w'
set_option maxHeartbeats 2000000 in
set_option maxRecDepth 100000 in
theorem SizeI_any : ∀ t : Ty, SizeC t := Ty.ind fun k s n ts ih hnd w D row h => by
  obtain ⟨k1, s1, n1, A, l, c, ts1, e, rfl, hk, hnn, hs, hT⟩ := h.parts
  cases e
  have HT := Lib.hid hT
  have HL := Lib.hid hT.len
  have hnd2 : nodesL ts + 1 ≤ 1000000 := by simp only [Ty.nodes] at hnd; omega
  have HI : Hid (∀ u, u ∈ ts → ∀ (w : World) (D : Nat → Prop) (row : Array Value), TyAt w D u row → Calls Tryz.prog 10 #[.agg row] w fun e w' => e = .returned (.int .i64 (u.nodes : Int)) ∧ Below w.heap.size w w') := Lib.hid fun u hu => ih u hu (by have := mem_nodesL hu; omega)
  have hcm := hT.cap
  have hmx := hT.max
  unfold maxLen at hmx
  clear h hk hnn hs hT ih hnd
  have hb := Below.refl w.heap.size w
  go_enter Tryz.func10, Tryz.ntmps10
  go_upto_region 0 with (fail)
  apply wp_region_lit
  (with_reducible refine wl_box rfl ?_); intro W p hbn hlp hp; replace hb := hb.trans (hbn.mono hb.size); clear hbn; simp only [put_lit, List.set_cons_zero, List.set_cons_succ]
  (with_reducible refine wl_k ?_ ?_); exact rfl; intro K hK; go_simp; refine hK _ ?_; clear hK K
  go_upto_region 1 with (fail)
  apply wp_region_lit
  (with_reducible refine wl_k ?_ ?_); exact rfl; intro K hK; go_simp; refine hK _ ?_; clear hK K
  obtain ⟨one, h1⟩ : ∃ one : Nat, one = 1 := ⟨_, rfl⟩
  have HN0 : Hid (one = 1 + nodesL (ts.take 0)) := Lib.hid (by rw [h1]; simp [nodesL])
  rw [show (1 : Int) = (one : Int) by rw [h1]; rfl]
  clear h1
  go_wp2_with fail
  go_loopw [3, 4] (fun v i wr => ∃ j m : Nat, j ≤ l ∧ i = .int .i64 (j : Int) ∧ v = .int .i64 (m : Int) ∧ Hid (m = 1 + nodesL (ts.take j)) ∧ Below w.heap.size w wr ∧ wr.heap[p]? = some (.cells (cell4 k s n A l c) 24 (0, 0))) (fun _ i _ => l - (intOf i).toNat)
  case atStart => exact ⟨0, one, by omega, rfl, rfl, HN0, hb, hp⟩
  case round =>
    clear hb hp HN0
    obtain ⟨j, m, hj, rfl, rfl, HM, hb, hp⟩ := hrel
    go_upto_region 3 with (fail)
    by_cases hlt : j < l
    · have hltI : (j : Int) < (l : Int) := by omega
      obtain ⟨b, off, u, rowu, rfl, -, hu, -⟩ := (HT.out.old hb).get hlt
      obtain ⟨rowu, hru, htu⟩ := (HT.out.old hb).rowK hu
      have HC := Lib.hid (HI.out u (List.mem_of_getElem? hu) wr D rowu htu)
      obtain ⟨q, hq⟩ : ∃ q, q = u.nodes := ⟨_, rfl⟩
      obtain ⟨m1, hm1⟩ : ∃ m1, m1 = m + q := ⟨_, rfl⟩
      have HM1 : Hid (m1 = 1 + nodesL (ts.take (j + 1))) := Lib.hid (by rw [nodesL_take hu, hm1, HM.out, hq]; omega)
      have hmI : (m : Int) + (q : Int) = (m1 : Int) := by omega
      have hmw : IntKind.i64.wrap (m1 : Int) = (m1 : Int) := IntWalk.i64_in _ (by have := HM1.out; have := nodesL_le (ts := ts) (j := j + 1); omega)
      rw [← hq] at HC
      clear hq hu htu hm1
      apply wp_region_lit
      (with_reducible refine wl_k ?_ ?_); exact rfl; intro K hK; go_simp; refine hK _ ?_; clear hK K
      (with_reducible refine wl_k ?_ ?_); exact rfl; intro K hK; go_simp; refine hK _ ?_; clear hK K
      (first | ((with_reducible apply wl_oneG); exact rfl; exact rfl; first | exact f0 (by with_reducible assumption) | exact f1 (by with_reducible assumption) | exact f2 (by with_reducible assumption) | exact f3 (by with_reducible assumption) | with_reducible assumption | exact g22 (by with_reducible assumption) | exact g25 (by with_reducible assumption)) | ((with_reducible apply wl_rowG); exact rfl; exact rfl; first | with_reducible assumption | exact RowK.now (by with_reducible assumption) | exact f4 (by with_reducible assumption)))
      (with_reducible refine wl_k ?_ ?_); exact rfl; intro K hK; go_simp; refine hK _ ?_; clear hK K
      (with_reducible refine wl_k ?_ ?_); exact rfl; intro K hK; go_simp; refine hK _ ?_; clear hK K
      go_upto_region 5 with (fail)
      apply wp_region_lit
      (with_reducible refine wl_k ?_ ?_); exact rfl; intro K hK; go_simp; refine hK _ ?_; clear hK K
      (with_reducible refine wl_k ?_ ?_); exact rfl; intro K hK; go_simp; refine hK _ ?_; clear hK K
      (first | ((with_reducible apply wl_oneG); exact rfl; exact rfl; first | exact f0 (by with_reducible assumption) | exact f1 (by with_reducible assumption) | exact f2 (by with_reducible assumption) | exact f3 (by with_reducible assumption) | with_reducible assumption | exact g22 (by with_reducible assumption) | exact g25 (by with_reducible assumption)) | ((with_reducible apply wl_rowG); exact rfl; exact rfl; first | with_reducible assumption | exact RowK.now (by with_reducible assumption) | exact f4 (by with_reducible assumption)))
      (with_reducible refine wl_k ?_ ?_); exact rfl; intro K hK; go_simp; refine hK _ ?_; clear hK K
      (with_reducible refine wl_k ?_ ?_); exact rfl; intro K hK; go_simp; refine hK _ ?_; clear hK K
      (first | ((with_reducible apply wl_oneG); exact rfl; exact rfl; first | exact f0 (by with_reducible assumption) | exact f1 (by with_reducible assumption) | exact f2 (by with_reducible assumption) | exact f3 (by with_reducible assumption) | with_reducible assumption | exact g22 (by with_reducible assumption) | exact g25 (by with_reducible assumption)) | ((with_reducible apply wl_rowG); exact rfl; exact rfl; first | with_reducible assumption | exact RowK.now (by with_reducible assumption) | exact f4 (by with_reducible assumption)))
      (with_reducible refine wl_ck ?_ ?_); exact rfl; intro K hK; go_simp; refine ⟨_, _, ⟨rfl, rfl⟩, hK _ _ ⟨_, HC.out, ?_⟩⟩; clear hK K; rintro e w7 ⟨rfl, hb7⟩; refine ⟨_, rfl, ?_⟩; simp only [put_lit, List.set_cons_zero, List.set_cons_succ]
      (with_reducible refine wl_k ?_ ?_); exact rfl; intro K hK; go_simp; refine hK _ ?_; clear hK K
      (with_reducible refine wl_k ?_ ?_); exact rfl; intro K hK; go_simp; refine hK _ ?_; clear hK K
      clear hru HC HM
      replace hp := below_look hb7 hp; replace hb := hb.trans (hb7.mono hb.size); clear hb7
      go_wp2_with fail
      go_roundw
      case rel => exact ⟨j + 1, m1, by omega, by go_num, rfl, HM1, hb, hp⟩
      case measure => simp [intOf]; omega
    · have hltI : ¬ (j : Int) < (l : Int) := by omega
      have HF : Hid (m = (Ty.node k s n ts).nodes) := Lib.hid (by rw [HM.out, List.take_of_length_le (by rw [HL.out]; omega)]; simp [Ty.nodes])
      apply wp_region_lit
      (with_reducible refine wl_k ?_ ?_); exact rfl; intro K hK; go_simp; refine hK _ ?_; clear hK K
      (with_reducible refine wl_k ?_ ?_); exact rfl; intro K hK; go_simp; refine hK _ ?_; clear hK K
      (first | ((with_reducible apply wl_oneG); exact rfl; exact rfl; first | exact f0 (by with_reducible assumption) | exact f1 (by with_reducible assumption) | exact f2 (by with_reducible assumption) | exact f3 (by with_reducible assumption) | with_reducible assumption | exact g22 (by with_reducible assumption) | exact g25 (by with_reducible assumption)) | ((with_reducible apply wl_rowG); exact rfl; exact rfl; first | with_reducible assumption | exact RowK.now (by with_reducible assumption) | exact f4 (by with_reducible assumption)))
      (with_reducible refine wl_k ?_ ?_); exact rfl; intro K hK; go_simp; refine hK _ ?_; clear hK K
      (with_reducible refine wl_k ?_ ?_); exact rfl; intro K hK; go_simp; refine hK _ ?_; clear hK K
      clear hp HM
      go_upto_region 6 with (fail)
      apply wp_region_lit
      (with_reducible refine wl_k ?_ ?_); exact rfl; intro K hK; go_simp; refine hK _ ?_; clear hK K
      (with_reducible refine wl_k ?_ ?_); exact rfl; intro K hK; go_simp; refine hK _ ?_; clear hK K
      go_wp2_with fail
      go_ret
      exact ⟨by rw [← HF.out]; rfl, hb⟩
/-- Whether no parameter, no associated type and no variable stands in a tree. -/
def concB (t : Ty) : Bool := decide (t.kind ≠ 7) && (decide (t.kind ≠ 8) && decide (t.kind ≠ 12))
theorem alls_step2 {f : Ty → Bool} {ts : List Ty} {j : Nat} {u : Ty} (h : ts[j]? = some u) : alls f (ts.drop j) = (u.all f && alls f (ts.drop (j + 1))) := by
  obtain ⟨h1, e1⟩ := List.getElem?_eq_some_iff.1 h
  rw [List.drop_eq_getElem_cons h1, e1, alls]
def ConcC (t : Ty) : Prop := ∀ (w : World) (D : Nat → Prop) (row : Array Value), TyAt w D t row →
  Calls Tryz.prog 12 #[.agg row] w fun e w' => e = .returned (.bool (t.all concB)) ∧ Below w.heap.size w w'
set_option maxHeartbeats 2000000 in
set_option maxRecDepth 100000 in
theorem ConcI_any : ∀ t : Ty, ConcC t := Ty.ind fun k s n ts ih w D row h => by
  obtain ⟨k1, s1, n1, A, l, c, ts1, e, rfl, hk, hnn, hs, hT⟩ := h.parts
  cases e
  have HT := Lib.hid hT
  have HL := Lib.hid hT.len
  have HI := Lib.hid ih
  have hcm := hT.cap
  have hmx := hT.max
  unfold maxLen at hmx
  clear h hk hnn hs hT ih
  have hb := Below.refl w.heap.size w
  go_enter Tryz.func12, Tryz.ntmps12
  go_upto_region 0 with (fail)
  apply wp_region_lit
  (with_reducible refine wl_box rfl ?_); intro W p hbn hlp hp; replace hb := hb.trans (hbn.mono hb.size); clear hbn; simp only [put_lit, List.set_cons_zero, List.set_cons_succ]
  (with_reducible refine wl_k ?_ ?_); exact rfl; intro K hK; go_simp; refine hK _ ?_; clear hK K
  go_upto_region 1 with (fail)
  by_cases h7 : k = 7
  · have e7 : (k == 7) = true := by simp [h7]
    have HNO : Hid ((Ty.node k s n ts).all concB = false) := Lib.hid (by simp [Ty.all, concB, Ty.kind, h7])
    clear h7
    apply wp_region_lit
    (with_reducible refine wl_k ?_ ?_); exact rfl; intro K hK; go_simp; refine hK _ ?_; clear hK K
    (first | ((with_reducible apply wl_oneG); exact rfl; exact rfl; first | exact f0 (by with_reducible assumption) | exact f1 (by with_reducible assumption) | exact f2 (by with_reducible assumption) | exact f3 (by with_reducible assumption) | with_reducible assumption | exact g22 (by with_reducible assumption) | exact g25 (by with_reducible assumption)) | ((with_reducible apply wl_rowG); exact rfl; exact rfl; first | with_reducible assumption | exact RowK.now (by with_reducible assumption) | exact f4 (by with_reducible assumption)))
    (with_reducible refine wl_k ?_ ?_); exact rfl; intro K hK; go_simp; refine hK _ ?_; clear hK K
    (with_reducible refine wl_k ?_ ?_); exact rfl; intro K hK; go_simp; refine hK _ ?_; clear hK K
    (first | ((with_reducible refine wl_skipU ?_ ?_ ?_); exact rfl; exact rfl) | ((with_reducible refine wl_skip ?_ ?_); exact rfl; simp only [put_lit, List.set_cons_zero, List.set_cons_succ]))
    (first | ((with_reducible refine wl_skipU ?_ ?_ ?_); exact rfl; exact rfl) | ((with_reducible refine wl_skip ?_ ?_); exact rfl; simp only [put_lit, List.set_cons_zero, List.set_cons_succ]))
    (first | ((with_reducible refine wl_skipU ?_ ?_ ?_); exact rfl; exact rfl) | ((with_reducible refine wl_skip ?_ ?_); exact rfl; simp only [put_lit, List.set_cons_zero, List.set_cons_succ]))
    (with_reducible refine wl_k ?_ ?_); exact rfl; intro K hK; go_simp; refine hK _ ?_; clear hK K
    (with_reducible refine wl_k ?_ ?_); exact rfl; intro K hK; go_simp; refine hK _ ?_; clear hK K
    (first | ((with_reducible refine wl_skipU ?_ ?_ ?_); exact rfl; exact rfl) | ((with_reducible refine wl_skip ?_ ?_); exact rfl; simp only [put_lit, List.set_cons_zero, List.set_cons_succ]))
    (first | ((with_reducible refine wl_skipU ?_ ?_ ?_); exact rfl; exact rfl) | ((with_reducible refine wl_skip ?_ ?_); exact rfl; simp only [put_lit, List.set_cons_zero, List.set_cons_succ]))
    (first | ((with_reducible refine wl_skipU ?_ ?_ ?_); exact rfl; exact rfl) | ((with_reducible refine wl_skip ?_ ?_); exact rfl; simp only [put_lit, List.set_cons_zero, List.set_cons_succ]))
    (with_reducible refine wl_k ?_ ?_); exact rfl; intro K hK; go_simp; refine hK _ ?_; clear hK K
    go_upto_region 2 with (fail)
    apply wp_region_lit
    (with_reducible refine wl_k ?_ ?_); exact rfl; intro K hK; go_simp; refine hK _ ?_; clear hK K
    clear hp
    go_wp2_with fail
    go_ret
    exact ⟨by rw [HNO.out]; rfl, hb⟩
  · have e7 : (k == 7) = false := by simp [h7]
    by_cases h8 : k = 8
    · have e8 : (k == 8) = true := by simp [h8]
      have HNO : Hid ((Ty.node k s n ts).all concB = false) := Lib.hid (by simp [Ty.all, concB, Ty.kind, h8])
      clear h7 h8
      apply wp_region_lit
      (with_reducible refine wl_k ?_ ?_); exact rfl; intro K hK; go_simp; refine hK _ ?_; clear hK K
      (first | ((with_reducible apply wl_oneG); exact rfl; exact rfl; first | exact f0 (by with_reducible assumption) | exact f1 (by with_reducible assumption) | exact f2 (by with_reducible assumption) | exact f3 (by with_reducible assumption) | with_reducible assumption | exact g22 (by with_reducible assumption) | exact g25 (by with_reducible assumption)) | ((with_reducible apply wl_rowG); exact rfl; exact rfl; first | with_reducible assumption | exact RowK.now (by with_reducible assumption) | exact f4 (by with_reducible assumption)))
      (with_reducible refine wl_k ?_ ?_); exact rfl; intro K hK; go_simp; refine hK _ ?_; clear hK K
      (with_reducible refine wl_k ?_ ?_); exact rfl; intro K hK; go_simp; refine hK _ ?_; clear hK K
      (with_reducible refine wl_k ?_ ?_); exact rfl; intro K hK; go_simp; refine hK _ ?_; clear hK K
      (first | ((with_reducible apply wl_oneG); exact rfl; exact rfl; first | exact f0 (by with_reducible assumption) | exact f1 (by with_reducible assumption) | exact f2 (by with_reducible assumption) | exact f3 (by with_reducible assumption) | with_reducible assumption | exact g22 (by with_reducible assumption) | exact g25 (by with_reducible assumption)) | ((with_reducible apply wl_rowG); exact rfl; exact rfl; first | with_reducible assumption | exact RowK.now (by with_reducible assumption) | exact f4 (by with_reducible assumption)))
      (with_reducible refine wl_k ?_ ?_); exact rfl; intro K hK; go_simp; refine hK _ ?_; clear hK K
      (with_reducible refine wl_k ?_ ?_); exact rfl; intro K hK; go_simp; refine hK _ ?_; clear hK K
      (with_reducible refine wl_k ?_ ?_); exact rfl; intro K hK; go_simp; refine hK _ ?_; clear hK K
      (first | ((with_reducible refine wl_skipU ?_ ?_ ?_); exact rfl; exact rfl) | ((with_reducible refine wl_skip ?_ ?_); exact rfl; simp only [put_lit, List.set_cons_zero, List.set_cons_succ]))
      (first | ((with_reducible refine wl_skipU ?_ ?_ ?_); exact rfl; exact rfl) | ((with_reducible refine wl_skip ?_ ?_); exact rfl; simp only [put_lit, List.set_cons_zero, List.set_cons_succ]))
      (first | ((with_reducible refine wl_skipU ?_ ?_ ?_); exact rfl; exact rfl) | ((with_reducible refine wl_skip ?_ ?_); exact rfl; simp only [put_lit, List.set_cons_zero, List.set_cons_succ]))
      (with_reducible refine wl_k ?_ ?_); exact rfl; intro K hK; go_simp; refine hK _ ?_; clear hK K
      go_upto_region 2 with (fail)
      apply wp_region_lit
      (with_reducible refine wl_k ?_ ?_); exact rfl; intro K hK; go_simp; refine hK _ ?_; clear hK K
      clear hp
      go_wp2_with fail
      go_ret
      exact ⟨by rw [HNO.out]; rfl, hb⟩
    · have e8 : (k == 8) = false := by simp [h8]
      by_cases h12 : k = 12
      · have e12 : (k == 12) = true := by simp [h12]
        have HNO : Hid ((Ty.node k s n ts).all concB = false) := Lib.hid (by simp [Ty.all, concB, Ty.kind, h12])
        clear h7 h8 h12
        apply wp_region_lit
        (with_reducible refine wl_k ?_ ?_); exact rfl; intro K hK; go_simp; refine hK _ ?_; clear hK K
        (first | ((with_reducible apply wl_oneG); exact rfl; exact rfl; first | exact f0 (by with_reducible assumption) | exact f1 (by with_reducible assumption) | exact f2 (by with_reducible assumption) | exact f3 (by with_reducible assumption) | with_reducible assumption | exact g22 (by with_reducible assumption) | exact g25 (by with_reducible assumption)) | ((with_reducible apply wl_rowG); exact rfl; exact rfl; first | with_reducible assumption | exact RowK.now (by with_reducible assumption) | exact f4 (by with_reducible assumption)))
        (with_reducible refine wl_k ?_ ?_); exact rfl; intro K hK; go_simp; refine hK _ ?_; clear hK K
        (with_reducible refine wl_k ?_ ?_); exact rfl; intro K hK; go_simp; refine hK _ ?_; clear hK K
        (with_reducible refine wl_k ?_ ?_); exact rfl; intro K hK; go_simp; refine hK _ ?_; clear hK K
        (first | ((with_reducible apply wl_oneG); exact rfl; exact rfl; first | exact f0 (by with_reducible assumption) | exact f1 (by with_reducible assumption) | exact f2 (by with_reducible assumption) | exact f3 (by with_reducible assumption) | with_reducible assumption | exact g22 (by with_reducible assumption) | exact g25 (by with_reducible assumption)) | ((with_reducible apply wl_rowG); exact rfl; exact rfl; first | with_reducible assumption | exact RowK.now (by with_reducible assumption) | exact f4 (by with_reducible assumption)))
        (with_reducible refine wl_k ?_ ?_); exact rfl; intro K hK; go_simp; refine hK _ ?_; clear hK K
        (with_reducible refine wl_k ?_ ?_); exact rfl; intro K hK; go_simp; refine hK _ ?_; clear hK K
        (with_reducible refine wl_k ?_ ?_); exact rfl; intro K hK; go_simp; refine hK _ ?_; clear hK K
        (with_reducible refine wl_k ?_ ?_); exact rfl; intro K hK; go_simp; refine hK _ ?_; clear hK K
        (first | ((with_reducible apply wl_oneG); exact rfl; exact rfl; first | exact f0 (by with_reducible assumption) | exact f1 (by with_reducible assumption) | exact f2 (by with_reducible assumption) | exact f3 (by with_reducible assumption) | with_reducible assumption | exact g22 (by with_reducible assumption) | exact g25 (by with_reducible assumption)) | ((with_reducible apply wl_rowG); exact rfl; exact rfl; first | with_reducible assumption | exact RowK.now (by with_reducible assumption) | exact f4 (by with_reducible assumption)))
        (with_reducible refine wl_k ?_ ?_); exact rfl; intro K hK; go_simp; refine hK _ ?_; clear hK K
        (with_reducible refine wl_k ?_ ?_); exact rfl; intro K hK; go_simp; refine hK _ ?_; clear hK K
        go_upto_region 2 with (fail)
        apply wp_region_lit
        (with_reducible refine wl_k ?_ ?_); exact rfl; intro K hK; go_simp; refine hK _ ?_; clear hK K
        clear hp
        go_wp2_with fail
        go_ret
        exact ⟨by rw [HNO.out]; rfl, hb⟩
      · have e12 : (k == 12) = false := by simp [h12]
        have HYE : Hid ((Ty.node k s n ts).all concB = alls concB ts) := Lib.hid (by simp [Ty.all, concB, Ty.kind, h7, h8, h12])
        clear h7 h8 h12
        apply wp_region_lit
        (with_reducible refine wl_k ?_ ?_); exact rfl; intro K hK; go_simp; refine hK _ ?_; clear hK K
        (first | ((with_reducible apply wl_oneG); exact rfl; exact rfl; first | exact f0 (by with_reducible assumption) | exact f1 (by with_reducible assumption) | exact f2 (by with_reducible assumption) | exact f3 (by with_reducible assumption) | with_reducible assumption | exact g22 (by with_reducible assumption) | exact g25 (by with_reducible assumption)) | ((with_reducible apply wl_rowG); exact rfl; exact rfl; first | with_reducible assumption | exact RowK.now (by with_reducible assumption) | exact f4 (by with_reducible assumption)))
        (with_reducible refine wl_k ?_ ?_); exact rfl; intro K hK; go_simp; refine hK _ ?_; clear hK K
        (with_reducible refine wl_k ?_ ?_); exact rfl; intro K hK; go_simp; refine hK _ ?_; clear hK K
        (with_reducible refine wl_k ?_ ?_); exact rfl; intro K hK; go_simp; refine hK _ ?_; clear hK K
        (first | ((with_reducible apply wl_oneG); exact rfl; exact rfl; first | exact f0 (by with_reducible assumption) | exact f1 (by with_reducible assumption) | exact f2 (by with_reducible assumption) | exact f3 (by with_reducible assumption) | with_reducible assumption | exact g22 (by with_reducible assumption) | exact g25 (by with_reducible assumption)) | ((with_reducible apply wl_rowG); exact rfl; exact rfl; first | with_reducible assumption | exact RowK.now (by with_reducible assumption) | exact f4 (by with_reducible assumption)))
        (with_reducible refine wl_k ?_ ?_); exact rfl; intro K hK; go_simp; refine hK _ ?_; clear hK K
        (with_reducible refine wl_k ?_ ?_); exact rfl; intro K hK; go_simp; refine hK _ ?_; clear hK K
        (with_reducible refine wl_k ?_ ?_); exact rfl; intro K hK; go_simp; refine hK _ ?_; clear hK K
        (with_reducible refine wl_k ?_ ?_); exact rfl; intro K hK; go_simp; refine hK _ ?_; clear hK K
        (first | ((with_reducible apply wl_oneG); exact rfl; exact rfl; first | exact f0 (by with_reducible assumption) | exact f1 (by with_reducible assumption) | exact f2 (by with_reducible assumption) | exact f3 (by with_reducible assumption) | with_reducible assumption | exact g22 (by with_reducible assumption) | exact g25 (by with_reducible assumption)) | ((with_reducible apply wl_rowG); exact rfl; exact rfl; first | with_reducible assumption | exact RowK.now (by with_reducible assumption) | exact f4 (by with_reducible assumption)))
        (with_reducible refine wl_k ?_ ?_); exact rfl; intro K hK; go_simp; refine hK _ ?_; clear hK K
        (with_reducible refine wl_k ?_ ?_); exact rfl; intro K hK; go_simp; refine hK _ ?_; clear hK K
        go_wp2_with fail
        go_loopw [3] (fun i wr => ∃ j : Nat, j ≤ l ∧ i = .int .i64 (j : Int) ∧ Hid (alls concB ts = alls concB (ts.drop j)) ∧ Below w.heap.size w wr ∧ wr.heap[p]? = some (.cells (cell4 k s n A l c) 24 (0, 0))) (fun i _ => l - (intOf i).toNat)
        case atStart => exact ⟨0, by omega, rfl, Lib.hid rfl, hb, hp⟩
        case round =>
          clear hb hp
          obtain ⟨j, hj, rfl, HR, hb, hp⟩ := hrel
          go_upto_region 4 with (fail)
          by_cases hlt : j < l
          · have hltI : (j : Int) < (l : Int) := by omega
            obtain ⟨b, off, u, rowu, rfl, -, hu, -⟩ := (HT.out.old hb).get hlt
            obtain ⟨rowu, hru, htu⟩ := (HT.out.old hb).rowK hu
            have HSTEP := Lib.hid (alls_step2 (f := concB) hu)
            have HC := Lib.hid (HI.out u (List.mem_of_getElem? hu) wr D rowu htu)
            obtain ⟨bb, hbb⟩ : ∃ bb, bb = u.all concB := ⟨_, rfl⟩
            rw [← hbb] at HSTEP HC
            clear hbb hu htu
            apply wp_region_lit
            (with_reducible refine wl_k ?_ ?_); exact rfl; intro K hK; go_simp; refine hK _ ?_; clear hK K
            (with_reducible refine wl_k ?_ ?_); exact rfl; intro K hK; go_simp; refine hK _ ?_; clear hK K
            (first | ((with_reducible apply wl_oneG); exact rfl; exact rfl; first | exact f0 (by with_reducible assumption) | exact f1 (by with_reducible assumption) | exact f2 (by with_reducible assumption) | exact f3 (by with_reducible assumption) | with_reducible assumption | exact g22 (by with_reducible assumption) | exact g25 (by with_reducible assumption)) | ((with_reducible apply wl_rowG); exact rfl; exact rfl; first | with_reducible assumption | exact RowK.now (by with_reducible assumption) | exact f4 (by with_reducible assumption)))
            (with_reducible refine wl_k ?_ ?_); exact rfl; intro K hK; go_simp; refine hK _ ?_; clear hK K
            (with_reducible refine wl_k ?_ ?_); exact rfl; intro K hK; go_simp; refine hK _ ?_; clear hK K
            go_upto_region 6 with (fail)
            apply wp_region_lit
            (with_reducible refine wl_k ?_ ?_); exact rfl; intro K hK; go_simp; refine hK _ ?_; clear hK K
            (first | ((with_reducible apply wl_oneG); exact rfl; exact rfl; first | exact f0 (by with_reducible assumption) | exact f1 (by with_reducible assumption) | exact f2 (by with_reducible assumption) | exact f3 (by with_reducible assumption) | with_reducible assumption | exact g22 (by with_reducible assumption) | exact g25 (by with_reducible assumption)) | ((with_reducible apply wl_rowG); exact rfl; exact rfl; first | with_reducible assumption | exact RowK.now (by with_reducible assumption) | exact f4 (by with_reducible assumption)))
            (with_reducible refine wl_k ?_ ?_); exact rfl; intro K hK; go_simp; refine hK _ ?_; clear hK K
            (with_reducible refine wl_k ?_ ?_); exact rfl; intro K hK; go_simp; refine hK _ ?_; clear hK K
            (first | ((with_reducible apply wl_oneG); exact rfl; exact rfl; first | exact f0 (by with_reducible assumption) | exact f1 (by with_reducible assumption) | exact f2 (by with_reducible assumption) | exact f3 (by with_reducible assumption) | with_reducible assumption | exact g22 (by with_reducible assumption) | exact g25 (by with_reducible assumption)) | ((with_reducible apply wl_rowG); exact rfl; exact rfl; first | with_reducible assumption | exact RowK.now (by with_reducible assumption) | exact f4 (by with_reducible assumption)))
            (with_reducible refine wl_ck ?_ ?_); exact rfl; intro K hK; go_simp; refine ⟨_, _, ⟨rfl, rfl⟩, hK _ _ ⟨_, HC.out, ?_⟩⟩; clear hK K; rintro e w7 ⟨rfl, hb7⟩; refine ⟨_, rfl, ?_⟩; simp only [put_lit, List.set_cons_zero, List.set_cons_succ]
            (with_reducible refine wl_k ?_ ?_); exact rfl; intro K hK; go_simp; refine hK _ ?_; clear hK K
            clear hru HC
            replace hp := below_look hb7 hp; replace hb := hb.trans (hb7.mono hb.size); clear hb7
            cases bb with
            | false =>
              have HF2 : Hid ((Ty.node k s n ts).all concB = false) := Lib.hid (by rw [HYE.out, HR.out, HSTEP.out]; rfl)
              clear HR HSTEP HYE
              go_upto_region 7 with (fail)
              apply wp_region_lit
              (with_reducible refine wl_k ?_ ?_); exact rfl; intro K hK; go_simp; refine hK _ ?_; clear hK K
              clear hp
              go_wp2_with fail
              go_ret
              exact ⟨by rw [HF2.out]; rfl, hb⟩
            | true =>
              have HR2 : Hid (alls concB ts = alls concB (ts.drop (j + 1))) := Lib.hid (by rw [HR.out, HSTEP.out]; rfl)
              clear HR HSTEP
              go_wp2_with fail
              go_roundw
              case rel => exact ⟨j + 1, by omega, by go_num, HR2, hb, hp⟩
              case measure => simp [intOf]; omega
          · have hltI : ¬ (j : Int) < (l : Int) := by omega
            have HF2 : Hid ((Ty.node k s n ts).all concB = true) := Lib.hid (by rw [HYE.out, HR.out, List.drop_of_length_le (by rw [HL.out]; omega), alls])
            apply wp_region_lit
            (with_reducible refine wl_k ?_ ?_); exact rfl; intro K hK; go_simp; refine hK _ ?_; clear hK K
            (with_reducible refine wl_k ?_ ?_); exact rfl; intro K hK; go_simp; refine hK _ ?_; clear hK K
            (first | ((with_reducible apply wl_oneG); exact rfl; exact rfl; first | exact f0 (by with_reducible assumption) | exact f1 (by with_reducible assumption) | exact f2 (by with_reducible assumption) | exact f3 (by with_reducible assumption) | with_reducible assumption | exact g22 (by with_reducible assumption) | exact g25 (by with_reducible assumption)) | ((with_reducible apply wl_rowG); exact rfl; exact rfl; first | with_reducible assumption | exact RowK.now (by with_reducible assumption) | exact f4 (by with_reducible assumption)))
            (with_reducible refine wl_k ?_ ?_); exact rfl; intro K hK; go_simp; refine hK _ ?_; clear hK K
            (with_reducible refine wl_k ?_ ?_); exact rfl; intro K hK; go_simp; refine hK _ ?_; clear hK K
            clear hp HR HYE
            go_upto_region 8 with (fail)
            apply wp_region_lit
            (with_reducible refine wl_k ?_ ?_); exact rfl; intro K hK; go_simp; refine hK _ ?_; clear hK K
            go_wp2_with fail
            go_ret
            exact ⟨by rw [HF2.out]; rfl, hb⟩
theorem ent25 : Enters Tryz.prog 25 := enters_of Tryz.func25 (by kernel_rfl) rfl
def stepB (t : Ty) (_ : Unit) : Bool × Unit := (concB t, ())
theorem visit_conc : ∀ t : Ty, visit stepB t () = (t.all concB, ()) := Ty.ind fun k s n l ih => by
  have hl : ∀ l : List Ty, (∀ t, t ∈ l → visit stepB t () = (t.all concB, ())) → visits stepB l () = (alls concB l, ()) := by
    intro l
    induction l with
    | nil => intro _; rfl
    | cons t l ihl =>
      intro h
      simp only [visits, alls]
      rw [h t (by simp)]
      cases hh : t.all concB with
      | false => rfl
      | true => simp only [Bool.true_and]; exact ihl fun t ht => h t (by simp [ht])
  simp only [visit]
  rw [show stepB (.node k s n l) () = (concB (.node k s n l), ()) from rfl]
  rw [Ty.all]
  cases hh : concB (.node k s n l) with
  | false => rfl
  | true => simp only [Bool.true_and]; exact hl l ih
set_option maxHeartbeats 2000000 in
set_option maxRecDepth 100000 in
theorem conc1_any (t : Ty) (w : World) (D : Nat → Prop) (row : Array Value) (h : TyAt w D t row) :
    Calls Tryz.prog 25 #[.agg row] w fun e w' => e = .returned (.bool (concB t)) ∧ Below w.heap.size w w' := by
  obtain ⟨k, s, n, A, l, c, ts, he, rfl, -⟩ := h.parts
  have HE : Hid (concB t = (decide (k ≠ 7) && (decide (k ≠ 8) && decide (k ≠ 12)))) := Lib.hid (by rw [he]; rfl)
  clear h he
  have hb := Below.refl w.heap.size w
  go_enter Tryz.func25, Tryz.ntmps25
  go_upto_region 0 with (fail)
  apply wp_region_lit
  (with_reducible refine wl_box rfl ?_); intro W p hbn hlp hp; replace hb := hb.trans (hbn.mono hb.size); clear hbn; simp only [put_lit, List.set_cons_zero, List.set_cons_succ]
  (with_reducible refine wl_k ?_ ?_); exact rfl; intro K hK; go_simp; refine hK _ ?_; clear hK K
  go_upto_region 1 with (fail)
  by_cases h7 : k = 7
  · have e7 : (k != 7) = false := by simp [h7]
    have HR : Hid (concB t = false) := Lib.hid (by rw [HE.out]; simp [h7])
    clear h7
    apply wp_region_lit
    (with_reducible refine wl_k ?_ ?_); exact rfl; intro K hK; go_simp; refine hK _ ?_; clear hK K
    (first | ((with_reducible apply wl_oneG); exact rfl; exact rfl; first | exact f0 (by with_reducible assumption) | exact f1 (by with_reducible assumption) | exact f2 (by with_reducible assumption) | exact f3 (by with_reducible assumption) | with_reducible assumption | exact g22 (by with_reducible assumption) | exact g25 (by with_reducible assumption)) | ((with_reducible apply wl_rowG); exact rfl; exact rfl; first | with_reducible assumption | exact RowK.now (by with_reducible assumption) | exact f4 (by with_reducible assumption)))
    (with_reducible refine wl_k ?_ ?_); exact rfl; intro K hK; go_simp; refine hK _ ?_; clear hK K
    (with_reducible refine wl_k ?_ ?_); exact rfl; intro K hK; go_simp; refine hK _ ?_; clear hK K
    (first | ((with_reducible refine wl_skipU ?_ ?_ ?_); exact rfl; exact rfl) | ((with_reducible refine wl_skip ?_ ?_); exact rfl; simp only [put_lit, List.set_cons_zero, List.set_cons_succ]))
    (first | ((with_reducible refine wl_skipU ?_ ?_ ?_); exact rfl; exact rfl) | ((with_reducible refine wl_skip ?_ ?_); exact rfl; simp only [put_lit, List.set_cons_zero, List.set_cons_succ]))
    (first | ((with_reducible refine wl_skipU ?_ ?_ ?_); exact rfl; exact rfl) | ((with_reducible refine wl_skip ?_ ?_); exact rfl; simp only [put_lit, List.set_cons_zero, List.set_cons_succ]))
    (with_reducible refine wl_k ?_ ?_); exact rfl; intro K hK; go_simp; refine hK _ ?_; clear hK K
    (with_reducible refine wl_k ?_ ?_); exact rfl; intro K hK; go_simp; refine hK _ ?_; clear hK K
    (first | ((with_reducible refine wl_skipU ?_ ?_ ?_); exact rfl; exact rfl) | ((with_reducible refine wl_skip ?_ ?_); exact rfl; simp only [put_lit, List.set_cons_zero, List.set_cons_succ]))
    (first | ((with_reducible refine wl_skipU ?_ ?_ ?_); exact rfl; exact rfl) | ((with_reducible refine wl_skip ?_ ?_); exact rfl; simp only [put_lit, List.set_cons_zero, List.set_cons_succ]))
    (first | ((with_reducible refine wl_skipU ?_ ?_ ?_); exact rfl; exact rfl) | ((with_reducible refine wl_skip ?_ ?_); exact rfl; simp only [put_lit, List.set_cons_zero, List.set_cons_succ]))
    (with_reducible refine wl_k ?_ ?_); exact rfl; intro K hK; go_simp; refine hK _ ?_; clear hK K
    (with_reducible refine wl_k ?_ ?_); exact rfl; intro K hK; go_simp; refine hK _ ?_; clear hK K
    clear hp
    go_wp2_with fail
    go_ret
    exact ⟨by rw [HR.out]; rfl, hb⟩
  · have e7 : (k != 7) = true := by simp [h7]
    by_cases h8 : k = 8
    · have e8 : (k != 8) = false := by simp [h8]
      have HR : Hid (concB t = false) := Lib.hid (by rw [HE.out]; simp [h8])
      clear h7 h8
      apply wp_region_lit
      (with_reducible refine wl_k ?_ ?_); exact rfl; intro K hK; go_simp; refine hK _ ?_; clear hK K
      (first | ((with_reducible apply wl_oneG); exact rfl; exact rfl; first | exact f0 (by with_reducible assumption) | exact f1 (by with_reducible assumption) | exact f2 (by with_reducible assumption) | exact f3 (by with_reducible assumption) | with_reducible assumption | exact g22 (by with_reducible assumption) | exact g25 (by with_reducible assumption)) | ((with_reducible apply wl_rowG); exact rfl; exact rfl; first | with_reducible assumption | exact RowK.now (by with_reducible assumption) | exact f4 (by with_reducible assumption)))
      (with_reducible refine wl_k ?_ ?_); exact rfl; intro K hK; go_simp; refine hK _ ?_; clear hK K
      (with_reducible refine wl_k ?_ ?_); exact rfl; intro K hK; go_simp; refine hK _ ?_; clear hK K
      (with_reducible refine wl_k ?_ ?_); exact rfl; intro K hK; go_simp; refine hK _ ?_; clear hK K
      (first | ((with_reducible apply wl_oneG); exact rfl; exact rfl; first | exact f0 (by with_reducible assumption) | exact f1 (by with_reducible assumption) | exact f2 (by with_reducible assumption) | exact f3 (by with_reducible assumption) | with_reducible assumption | exact g22 (by with_reducible assumption) | exact g25 (by with_reducible assumption)) | ((with_reducible apply wl_rowG); exact rfl; exact rfl; first | with_reducible assumption | exact RowK.now (by with_reducible assumption) | exact f4 (by with_reducible assumption)))
      (with_reducible refine wl_k ?_ ?_); exact rfl; intro K hK; go_simp; refine hK _ ?_; clear hK K
      (with_reducible refine wl_k ?_ ?_); exact rfl; intro K hK; go_simp; refine hK _ ?_; clear hK K
      (with_reducible refine wl_k ?_ ?_); exact rfl; intro K hK; go_simp; refine hK _ ?_; clear hK K
      (first | ((with_reducible refine wl_skipU ?_ ?_ ?_); exact rfl; exact rfl) | ((with_reducible refine wl_skip ?_ ?_); exact rfl; simp only [put_lit, List.set_cons_zero, List.set_cons_succ]))
      (first | ((with_reducible refine wl_skipU ?_ ?_ ?_); exact rfl; exact rfl) | ((with_reducible refine wl_skip ?_ ?_); exact rfl; simp only [put_lit, List.set_cons_zero, List.set_cons_succ]))
      (first | ((with_reducible refine wl_skipU ?_ ?_ ?_); exact rfl; exact rfl) | ((with_reducible refine wl_skip ?_ ?_); exact rfl; simp only [put_lit, List.set_cons_zero, List.set_cons_succ]))
      (with_reducible refine wl_k ?_ ?_); exact rfl; intro K hK; go_simp; refine hK _ ?_; clear hK K
      (with_reducible refine wl_k ?_ ?_); exact rfl; intro K hK; go_simp; refine hK _ ?_; clear hK K
      clear hp
      go_wp2_with fail
      go_ret
      exact ⟨by rw [HR.out]; rfl, hb⟩
    · have e8 : (k != 8) = true := by simp [h8]
      by_cases h12 : k = 12
      · have e12 : (k != 12) = false := by simp [h12]
        have HR : Hid (concB t = false) := Lib.hid (by rw [HE.out]; simp [h12])
        clear h7 h8 h12
        apply wp_region_lit
        (with_reducible refine wl_k ?_ ?_); exact rfl; intro K hK; go_simp; refine hK _ ?_; clear hK K
        (first | ((with_reducible apply wl_oneG); exact rfl; exact rfl; first | exact f0 (by with_reducible assumption) | exact f1 (by with_reducible assumption) | exact f2 (by with_reducible assumption) | exact f3 (by with_reducible assumption) | with_reducible assumption | exact g22 (by with_reducible assumption) | exact g25 (by with_reducible assumption)) | ((with_reducible apply wl_rowG); exact rfl; exact rfl; first | with_reducible assumption | exact RowK.now (by with_reducible assumption) | exact f4 (by with_reducible assumption)))
        (with_reducible refine wl_k ?_ ?_); exact rfl; intro K hK; go_simp; refine hK _ ?_; clear hK K
        (with_reducible refine wl_k ?_ ?_); exact rfl; intro K hK; go_simp; refine hK _ ?_; clear hK K
        (with_reducible refine wl_k ?_ ?_); exact rfl; intro K hK; go_simp; refine hK _ ?_; clear hK K
        (first | ((with_reducible apply wl_oneG); exact rfl; exact rfl; first | exact f0 (by with_reducible assumption) | exact f1 (by with_reducible assumption) | exact f2 (by with_reducible assumption) | exact f3 (by with_reducible assumption) | with_reducible assumption | exact g22 (by with_reducible assumption) | exact g25 (by with_reducible assumption)) | ((with_reducible apply wl_rowG); exact rfl; exact rfl; first | with_reducible assumption | exact RowK.now (by with_reducible assumption) | exact f4 (by with_reducible assumption)))
        (with_reducible refine wl_k ?_ ?_); exact rfl; intro K hK; go_simp; refine hK _ ?_; clear hK K
        (with_reducible refine wl_k ?_ ?_); exact rfl; intro K hK; go_simp; refine hK _ ?_; clear hK K
        (with_reducible refine wl_k ?_ ?_); exact rfl; intro K hK; go_simp; refine hK _ ?_; clear hK K
        (with_reducible refine wl_k ?_ ?_); exact rfl; intro K hK; go_simp; refine hK _ ?_; clear hK K
        (first | ((with_reducible apply wl_oneG); exact rfl; exact rfl; first | exact f0 (by with_reducible assumption) | exact f1 (by with_reducible assumption) | exact f2 (by with_reducible assumption) | exact f3 (by with_reducible assumption) | with_reducible assumption | exact g22 (by with_reducible assumption) | exact g25 (by with_reducible assumption)) | ((with_reducible apply wl_rowG); exact rfl; exact rfl; first | with_reducible assumption | exact RowK.now (by with_reducible assumption) | exact f4 (by with_reducible assumption)))
        (with_reducible refine wl_k ?_ ?_); exact rfl; intro K hK; go_simp; refine hK _ ?_; clear hK K
        (with_reducible refine wl_k ?_ ?_); exact rfl; intro K hK; go_simp; refine hK _ ?_; clear hK K
        (with_reducible refine wl_k ?_ ?_); exact rfl; intro K hK; go_simp; refine hK _ ?_; clear hK K
        clear hp
        go_wp2_with fail
        go_ret
        exact ⟨by rw [HR.out]; rfl, hb⟩
      · have e12 : (k != 12) = true := by simp [h12]
        have HR : Hid (concB t = true) := Lib.hid (by rw [HE.out]; simp [h7, h8, h12])
        clear h7 h8 h12
        apply wp_region_lit
        (with_reducible refine wl_k ?_ ?_); exact rfl; intro K hK; go_simp; refine hK _ ?_; clear hK K
        (first | ((with_reducible apply wl_oneG); exact rfl; exact rfl; first | exact f0 (by with_reducible assumption) | exact f1 (by with_reducible assumption) | exact f2 (by with_reducible assumption) | exact f3 (by with_reducible assumption) | with_reducible assumption | exact g22 (by with_reducible assumption) | exact g25 (by with_reducible assumption)) | ((with_reducible apply wl_rowG); exact rfl; exact rfl; first | with_reducible assumption | exact RowK.now (by with_reducible assumption) | exact f4 (by with_reducible assumption)))
        (with_reducible refine wl_k ?_ ?_); exact rfl; intro K hK; go_simp; refine hK _ ?_; clear hK K
        (with_reducible refine wl_k ?_ ?_); exact rfl; intro K hK; go_simp; refine hK _ ?_; clear hK K
        (with_reducible refine wl_k ?_ ?_); exact rfl; intro K hK; go_simp; refine hK _ ?_; clear hK K
        (first | ((with_reducible apply wl_oneG); exact rfl; exact rfl; first | exact f0 (by with_reducible assumption) | exact f1 (by with_reducible assumption) | exact f2 (by with_reducible assumption) | exact f3 (by with_reducible assumption) | with_reducible assumption | exact g22 (by with_reducible assumption) | exact g25 (by with_reducible assumption)) | ((with_reducible apply wl_rowG); exact rfl; exact rfl; first | with_reducible assumption | exact RowK.now (by with_reducible assumption) | exact f4 (by with_reducible assumption)))
        (with_reducible refine wl_k ?_ ?_); exact rfl; intro K hK; go_simp; refine hK _ ?_; clear hK K
        (with_reducible refine wl_k ?_ ?_); exact rfl; intro K hK; go_simp; refine hK _ ?_; clear hK K
        (with_reducible refine wl_k ?_ ?_); exact rfl; intro K hK; go_simp; refine hK _ ?_; clear hK K
        (with_reducible refine wl_k ?_ ?_); exact rfl; intro K hK; go_simp; refine hK _ ?_; clear hK K
        (first | ((with_reducible apply wl_oneG); exact rfl; exact rfl; first | exact f0 (by with_reducible assumption) | exact f1 (by with_reducible assumption) | exact f2 (by with_reducible assumption) | exact f3 (by with_reducible assumption) | with_reducible assumption | exact g22 (by with_reducible assumption) | exact g25 (by with_reducible assumption)) | ((with_reducible apply wl_rowG); exact rfl; exact rfl; first | with_reducible assumption | exact RowK.now (by with_reducible assumption) | exact f4 (by with_reducible assumption)))
        (with_reducible refine wl_k ?_ ?_); exact rfl; intro K hK; go_simp; refine hK _ ?_; clear hK K
        (with_reducible refine wl_k ?_ ?_); exact rfl; intro K hK; go_simp; refine hK _ ?_; clear hK K
        (with_reducible refine wl_k ?_ ?_); exact rfl; intro K hK; go_simp; refine hK _ ?_; clear hK K
        clear hp
        go_wp2_with fail
        go_ret
        exact ⟨by rw [HR.out]; rfl, hb⟩
theorem visC_conc : VisC (fun _ => True) 25 #[] stepB (fun _ C (_ : Unit) => ∀ b, ¬ C b) where
  ent := ent25
  low := fun _ _ _ hI b hb => absurd hb (hI b)
  keep := fun _ _ _ hI _ _ => hI
  run := fun w C s hI t _ D row h _ => by
    refine (conc1_any t w D row h).mono ?_
    rintro e w' ⟨rfl, hb⟩
    exact ⟨rfl, C, fun _ => hI, Keep.of hb, fun b h => Or.inl h⟩
set_option maxHeartbeats 2000000 in
set_option maxRecDepth 100000 in
theorem Concrete_any (t : Ty) (w : World) (D : Nat → Prop) (row : Array Value) (h : TyAt w D t row) :
    Calls Tryz.prog 11 #[.agg row] w fun e w' => e = .returned (.bool (t.all concB)) ∧ Below w.heap.size w w' := by
  have HT := Lib.hid h
  obtain ⟨k, s, n, A, l, c, ts, he, rfl, -⟩ := h.parts
  clear h he
  have hb := Below.refl w.heap.size w
  go_enter Tryz.func11, Tryz.ntmps11
  go_upto_region 0 with (fail)
  apply wp_region_lit
  (with_reducible refine wl_box rfl ?_); intro W p hbn hlp hp; replace hb := hb.trans (hbn.mono hb.size); clear hbn; simp only [put_lit, List.set_cons_zero, List.set_cons_succ]
  (with_reducible refine wl_k ?_ ?_); exact rfl; intro K hK; go_simp; refine hK _ ?_; clear hK K
  have hc := each_any visC_conc (fun _ _ _ _ _ _ _ => trivial) t trivial W (fun _ => False) () D _ (fun _ h => h) (HT.out.old hb) (fun _ _ h => h)
  rw [visit_conc] at hc
  have HC := Lib.hid hc
  clear hc
  go_upto_region 1 with (fail)
  apply wp_region_lit
  (first | ((with_reducible apply wl_oneG); exact rfl; exact rfl; first | exact f0 (by with_reducible assumption) | exact f1 (by with_reducible assumption) | exact f2 (by with_reducible assumption) | exact f3 (by with_reducible assumption) | with_reducible assumption | exact g22 (by with_reducible assumption) | exact g25 (by with_reducible assumption)) | ((with_reducible apply wl_rowG); exact rfl; exact rfl; first | with_reducible assumption | exact RowK.now (by with_reducible assumption) | exact f4 (by with_reducible assumption)))
  (with_reducible refine wl_ck ?_ ?_); exact rfl; intro K hK; go_simp; refine ⟨_, _, ⟨rfl, rfl⟩, hK _ _ ⟨_, HC.out, ?_⟩⟩; clear hK K; rintro e w7 ⟨rfl, C7, -, hk7, -⟩; refine ⟨_, rfl, ?_⟩; simp only [put_lit, List.set_cons_zero, List.set_cons_succ]
  have HB7 := Lib.hid (Below.keep hb hk7 (fun b h => h.elim))
  clear hk7 hp
  (with_reducible refine wl_k ?_ ?_); exact rfl; intro K hK; go_simp; refine hK _ ?_; clear hK K
  go_wp2_with fail
  go_ret
  exact ⟨rfl, HB7.out⟩
end Go.Proofs.YtokmaehefenpmaaGreatDoor
namespace Go.Proofs.YtokmaehefenpmaaGreatDoor
open Go.RowKit Go.Proofs.YtokmaehefenpmaaGreatDoor.Nm
set_option linter.unusedSimpArgs false
set_option maxHeartbeats 2000000 in
set_option maxRecDepth 100000 in
theorem EqStrings_same (ns : List ByteArray) (A A' : Option Addr) (l c c' : Nat) (w : World) (h : TxAt w ns A l c) (h' : TxAt w ns A' l c') :
    Calls Tryz.prog 13 #[.slice A l c, .slice A' l c'] w fun e w' => e = .returned (.bool true) ∧ Below w.heap.size w w' := by
  have HT := Lib.hid h
  have HU := Lib.hid h'
  have hcm := h.cap
  have hmx := h.max
  unfold maxLen at hmx
  clear h h'
  have hb := Below.refl w.heap.size w
  go_enter Tryz.func13, Tryz.ntmps13
  go_upto_region 0 with (fail)
  apply wp_region_lit
  (with_reducible refine wl_k ?_ ?_); exact rfl; intro K hK; go_simp; refine hK _ ?_; clear hK K
  go_upto_region 1 with (fail)
  apply wp_region_lit
  (with_reducible refine wl_k ?_ ?_); exact rfl; intro K hK; go_simp; refine hK _ ?_; clear hK K
  (with_reducible refine wl_k ?_ ?_); exact rfl; intro K hK; go_simp; refine hK _ ?_; clear hK K
  (with_reducible refine wl_k ?_ ?_); exact rfl; intro K hK; go_simp; refine hK _ ?_; clear hK K
  (with_reducible refine wl_k ?_ ?_); exact rfl; intro K hK; go_simp; refine hK _ ?_; clear hK K
  (with_reducible refine wl_k ?_ ?_); exact rfl; intro K hK; go_simp; refine hK _ ?_; clear hK K
  go_wp2_with fail
  go_loopw [5] (fun i wr => ∃ j : Nat, j ≤ l ∧ i = .int .i64 (j : Int) ∧ Below w.heap.size w wr) (fun i _ => l - (intOf i).toNat)
  case atStart => exact ⟨0, by omega, rfl, hb⟩
  case round =>
    clear hb
    obtain ⟨j, hj, rfl, hb⟩ := hrel
    go_upto_region 4 with (fail)
    by_cases hlt : j < l
    · have hltI : (j : Int) < (l : Int) := by omega
      obtain ⟨b, off, s, rfl, hi⟩ := HT.out.addr hlt
      obtain ⟨b', off', s', rfl, hi'⟩ := HU.out.addr hlt
      obtain rfl : s = s' := by rw [hi] at hi'; exact Option.some.inj hi'
      have hone1 : Hid (∀ w', Below wr.heap.size wr w' → OneAt w' 9 ⟨b, off + j, none⟩ (.string s)) := Lib.hid fun w' hw' => ((HT.out.old hb).old hw').one hi
      have hone2 : Hid (∀ w', Below wr.heap.size wr w' → OneAt w' 9 ⟨b', off' + j, none⟩ (.string s)) := Lib.hid fun w' hw' => ((HU.out.old hb).old hw').one hi
      have hse : (s.toList == s.toList) = true := by simp
      clear hi hi'
      apply wp_region_lit
      (with_reducible refine wl_k ?_ ?_); exact rfl; intro K hK; go_simp; refine hK _ ?_; clear hK K
      (with_reducible refine wl_k ?_ ?_); exact rfl; intro K hK; go_simp; refine hK _ ?_; clear hK K
      (with_reducible refine wl_k ?_ ?_); exact rfl; intro K hK; go_simp; refine hK _ ?_; clear hK K
      (with_reducible refine wl_k ?_ ?_); exact rfl; intro K hK; go_simp; refine hK _ ?_; clear hK K
      go_upto_region 6 with (fail)
      refine wp_region_belowAll mixed (by kernel_rfl) ?_
      (with_reducible refine wq_k ?_ ?_); exact rfl; intro K hK; go_simp; (with_reducible refine hK _ ?_); clear hK K
      (with_reducible refine wq_k ?_ ?_); exact rfl; intro K hK; go_simp; (with_reducible refine hK _ ?_); clear hK K
      (with_reducible refine wq_k ?_ ?_); exact rfl; intro K hK; go_simp; (with_reducible refine hK _ ?_); clear hK K
      (with_reducible apply wq_one); exact rfl; exact rfl; exact hone1.out
      try simp only [put_lit, List.set_cons_zero, List.set_cons_succ]
      (with_reducible refine wq_k ?_ ?_); exact rfl; intro K hK; go_simp; (with_reducible refine hK _ ?_); clear hK K
      (with_reducible refine wq_k ?_ ?_); exact rfl; intro K hK; go_simp; (with_reducible refine hK _ ?_); clear hK K
      (with_reducible refine wq_k ?_ ?_); exact rfl; intro K hK; go_simp; (with_reducible refine hK _ ?_); clear hK K
      (with_reducible apply wq_one); exact rfl; exact rfl; exact hone2.out
      try simp only [put_lit, List.set_cons_zero, List.set_cons_succ]
      (with_reducible refine wq_k ?_ ?_); exact rfl; intro K hK; go_simp; (with_reducible refine hK _ ?_); clear hK K
      intro w7 hb7
      replace hb := hb.trans (hb7.mono hb.size); clear hb7
      clear hone1 hone2
      go_wp2_with fail
      go_roundw
      case rel => exact ⟨j + 1, by omega, by go_num, hb⟩
      case measure => simp [intOf]; omega
    · have hltI : ¬ (j : Int) < (l : Int) := by omega
      apply wp_region_lit
      (with_reducible refine wl_k ?_ ?_); exact rfl; intro K hK; go_simp; refine hK _ ?_; clear hK K
      (with_reducible refine wl_k ?_ ?_); exact rfl; intro K hK; go_simp; refine hK _ ?_; clear hK K
      (with_reducible refine wl_k ?_ ?_); exact rfl; intro K hK; go_simp; refine hK _ ?_; clear hK K
      (with_reducible refine wl_k ?_ ?_); exact rfl; intro K hK; go_simp; refine hK _ ?_; clear hK K
      go_upto_region 8 with (fail)
      apply wp_region_lit
      (with_reducible refine wl_k ?_ ?_); exact rfl; intro K hK; go_simp; refine hK _ ?_; clear hK K
      go_wp2_with fail
      go_ret
      exact ⟨rfl, hb⟩
set_option maxHeartbeats 2000000 in
set_option maxRecDepth 100000 in
theorem EqInts_same (ns : List Int) (A A' : Option Addr) (l c c' : Nat) (w : World) (h : IxAt w ns A l c) (h' : IxAt w ns A' l c') :
    Calls Tryz.prog 16 #[.slice A l c, .slice A' l c'] w fun e w' => e = .returned (.bool true) ∧ Below w.heap.size w w' := by
  have HT := Lib.hid h
  have HU := Lib.hid h'
  have hcm := h.2.1
  have hmx := h.2.2.1
  unfold maxLen at hmx
  clear h h'
  have hb := Below.refl w.heap.size w
  go_enter Tryz.func16, Tryz.ntmps16
  go_upto_region 0 with (fail)
  apply wp_region_lit
  (with_reducible refine wl_k ?_ ?_); exact rfl; intro K hK; go_simp; refine hK _ ?_; clear hK K
  go_upto_region 1 with (fail)
  apply wp_region_lit
  (with_reducible refine wl_k ?_ ?_); exact rfl; intro K hK; go_simp; refine hK _ ?_; clear hK K
  (with_reducible refine wl_k ?_ ?_); exact rfl; intro K hK; go_simp; refine hK _ ?_; clear hK K
  (with_reducible refine wl_k ?_ ?_); exact rfl; intro K hK; go_simp; refine hK _ ?_; clear hK K
  (with_reducible refine wl_k ?_ ?_); exact rfl; intro K hK; go_simp; refine hK _ ?_; clear hK K
  (with_reducible refine wl_k ?_ ?_); exact rfl; intro K hK; go_simp; refine hK _ ?_; clear hK K
  go_wp2_with fail
  go_loopw [5] (fun i wr => ∃ j : Nat, j ≤ l ∧ i = .int .i64 (j : Int) ∧ Below w.heap.size w wr) (fun i _ => l - (intOf i).toNat)
  case atStart => exact ⟨0, by omega, rfl, hb⟩
  case round =>
    clear hb
    obtain ⟨j, hj, rfl, hb⟩ := hrel
    go_upto_region 4 with (fail)
    by_cases hlt : j < l
    · have hltI : (j : Int) < (l : Int) := by omega
      obtain ⟨s, hi⟩ : ∃ s, ns[j]? = some s := ⟨_, List.getElem?_eq_getElem (by rw [HT.out.1]; exact hlt)⟩
      obtain ⟨b, off, rfl, -⟩ := HT.out.2.2.2 j s hi
      obtain ⟨b', off', rfl, -⟩ := HU.out.2.2.2 j s hi
      have hone1 : Hid (∀ w', Below wr.heap.size wr w' → OneAt w' 3 ⟨b, off + j, none⟩ (.int .i64 s)) := Lib.hid fun w' hw' => by
        obtain ⟨b8, o8, e8, hc⟩ := ((HT.out.old hb).old hw').2.2.2 j s hi
        cases e8
        exact int_at hc
      have hone2 : Hid (∀ w', Below wr.heap.size wr w' → OneAt w' 3 ⟨b', off' + j, none⟩ (.int .i64 s)) := Lib.hid fun w' hw' => by
        obtain ⟨b8, o8, e8, hc⟩ := ((HU.out.old hb).old hw').2.2.2 j s hi
        cases e8
        exact int_at hc
      clear hi
      apply wp_region_lit
      (with_reducible refine wl_k ?_ ?_); exact rfl; intro K hK; go_simp; refine hK _ ?_; clear hK K
      (with_reducible refine wl_k ?_ ?_); exact rfl; intro K hK; go_simp; refine hK _ ?_; clear hK K
      (with_reducible refine wl_k ?_ ?_); exact rfl; intro K hK; go_simp; refine hK _ ?_; clear hK K
      (with_reducible refine wl_k ?_ ?_); exact rfl; intro K hK; go_simp; refine hK _ ?_; clear hK K
      go_upto_region 6 with (fail)
      refine wp_region_belowAll mixed (by kernel_rfl) ?_
      (with_reducible refine wq_k ?_ ?_); exact rfl; intro K hK; go_simp; (with_reducible refine hK _ ?_); clear hK K
      (with_reducible refine wq_k ?_ ?_); exact rfl; intro K hK; go_simp; (with_reducible refine hK _ ?_); clear hK K
      (with_reducible refine wq_k ?_ ?_); exact rfl; intro K hK; go_simp; (with_reducible refine hK _ ?_); clear hK K
      (with_reducible apply wq_one); exact rfl; exact rfl; exact hone1.out
      try simp only [put_lit, List.set_cons_zero, List.set_cons_succ]
      (with_reducible refine wq_k ?_ ?_); exact rfl; intro K hK; go_simp; (with_reducible refine hK _ ?_); clear hK K
      (with_reducible refine wq_k ?_ ?_); exact rfl; intro K hK; go_simp; (with_reducible refine hK _ ?_); clear hK K
      (with_reducible refine wq_k ?_ ?_); exact rfl; intro K hK; go_simp; (with_reducible refine hK _ ?_); clear hK K
      (with_reducible apply wq_one); exact rfl; exact rfl; exact hone2.out
      try simp only [put_lit, List.set_cons_zero, List.set_cons_succ]
      (with_reducible refine wq_k ?_ ?_); exact rfl; intro K hK; go_simp; (with_reducible refine hK _ ?_); clear hK K
      intro w7 hb7
      replace hb := hb.trans (hb7.mono hb.size); clear hb7
      clear hone1 hone2
      go_wp2_with fail
      go_roundw
      case rel => exact ⟨j + 1, by omega, by go_num, hb⟩
      case measure => simp [intOf]; omega
    · have hltI : ¬ (j : Int) < (l : Int) := by omega
      apply wp_region_lit
      (with_reducible refine wl_k ?_ ?_); exact rfl; intro K hK; go_simp; refine hK _ ?_; clear hK K
      (with_reducible refine wl_k ?_ ?_); exact rfl; intro K hK; go_simp; refine hK _ ?_; clear hK K
      (with_reducible refine wl_k ?_ ?_); exact rfl; intro K hK; go_simp; refine hK _ ?_; clear hK K
      (with_reducible refine wl_k ?_ ?_); exact rfl; intro K hK; go_simp; refine hK _ ?_; clear hK K
      go_upto_region 8 with (fail)
      apply wp_region_lit
      (with_reducible refine wl_k ?_ ?_); exact rfl; intro K hK; go_simp; refine hK _ ?_; clear hK K
      go_wp2_with fail
      go_ret
      exact ⟨rfl, hb⟩
end Go.Proofs.YtokmaehefenpmaaGreatDoor
namespace Go.Proofs.YtokmaehefenpmaaGreatDoor
open Go.RowKit Go.Proofs.YtokmaehefenpmaaGreatDoor.Nm
set_option linter.unusedSimpArgs false
theorem Valid_all (t : Ty) (w : World) (D : Nat → Prop) (row : Array Value) (h : TyAt w D t row) :
    Calls Tryz.prog 5 #[.agg row] w fun e w' => e = .returned (.bool (validB false t)) ∧ Below w.heap.size w w' := by
  have := Valid_any (nodeB false) (fun _ => True) (fun t _ => shaped_any false t) (fun _ _ _ _ _ _ _ => trivial) t trivial w D row h
  rw [openB_law] at this
  exact this
theorem Open_all (t : Ty) (w : World) (D : Nat → Prop) (row : Array Value) (h : TyAt w D t row) :
    Calls Tryz.prog 7 #[.agg row] w fun e w' => e = .returned (.bool (validB true t)) ∧ Below w.heap.size w w' := by
  have := Open_any (nodeB true) (fun _ => True) (fun t _ => shaped_any true t) (fun _ _ _ _ _ _ _ => trivial) t trivial w D row h
  rw [openB_law] at this
  exact this
theorem tx_same {w : World} {ns ms : List ByteArray} {A : Option Addr} {l c : Nat} (h : TxAt w ns A l c) (e : ms = ns) : TxAt w ms A l c := by subst e; exact h
theorem one_at {w : World} {D : Nat → Prop} {p : Nat} {k : Int} {s : ByteArray} {n : Int} {A : Option Addr} {l c : Nat} {t : Ty} {tq : TypeId} (hp : w.heap[p]? = some (.cells (cell4 k s n A l c) tq (0, 0))) (ht : TyAt w D t (cell4 k s n A l c)) : TysAt w Any [t] (some ⟨p, 0, none⟩) 1 1 := by
  refine ⟨rfl, Nat.le_refl _, by unfold maxLen; omega, fun _ => cell4 k s n A l c, fun i x hx => ?_, fun i x hx => ?_⟩
  · rcases i with _ | i
    · exact ⟨p, 0, _, _, _, rfl, trivial, hp, by rfl⟩
    · simp at hx
  · rcases i with _ | i
    · cases hx; exact ht.weak fun _ _ => trivial
    · simp at hx
set_option maxHeartbeats 8000000 in
set_option maxRecDepth 100000 in
theorem TypesAre_any (t : Ty) (w : World) (D : Nat → Prop) (row : Array Value) (h : TyAt w D t row) :
    Calls Tryz.prog 3 #[.agg row] w fun e w' => e = .returned (.bool true) ∧ Below w.heap.size w w' := by
  obtain ⟨k, s, n, A, l, c, ts, he, rfl, -⟩ := h.parts
  have HT := Lib.hid h
  clear h he
  have hb := Below.refl w.heap.size w
  go_enter Tryz.func3, Tryz.ntmps3
  go_upto_region 0 with (fail)
  apply wp_region_lit
  (with_reducible refine wl_box rfl ?_); intro W p hbn hlp hp; replace hb := hb.trans (hbn.mono hb.size); clear hbn; simp only [put_lit, List.set_cons_zero, List.set_cons_succ]
  (with_reducible refine wl_k ?_ ?_); exact rfl; intro K hK; go_simp; refine hK _ ?_; clear hK K
  go_upto_region 1 with (fail)
  apply wp_region_lit
  (first | ((with_reducible apply wl_oneG); exact rfl; exact rfl; first | exact f0 (by with_reducible assumption) | exact f1 (by with_reducible assumption) | exact f2 (by with_reducible assumption) | exact f3 (by with_reducible assumption) | with_reducible assumption | exact g22 (by with_reducible assumption) | exact g25 (by with_reducible assumption)) | ((with_reducible apply wl_rowG); exact rfl; exact rfl; first | with_reducible assumption | exact RowK.now (by with_reducible assumption) | exact f4 (by with_reducible assumption)))
  have lthpq3 := heap_lt hp; (with_reducible refine wl_bs rfl ?_); intro X5 q3 hbn hlq3 hq3; replace hp := below_look hbn hp; replace hb := hb.trans (hbn.mono hb.size); clear hbn; simp only [put_lit, List.set_cons_zero, List.set_cons_succ]
  have HC := Lib.hid (small_any [t] _ 1 1 X5 Any (one_at hq3 (HT.out.old hb)))
  clear hq3
  (with_reducible refine wl_ck ?_ ?_); exact rfl; intro K hK; go_simp; refine ⟨_, _, ⟨rfl, rfl⟩, hK _ _ ⟨_, HC.out, ?_⟩⟩; clear hK K; rintro e w7 ⟨⟨b7, rfl, hsm⟩, hb7⟩; refine ⟨_, rfl, ?_⟩; simp only [put_lit, List.set_cons_zero, List.set_cons_succ]
  (with_reducible refine wl_k ?_ ?_); exact rfl; intro K hK; go_simp; refine hK _ ?_; clear hK K
  have HSM := Lib.hid hsm
  clear hsm HC
  replace hp := below_look hb7 hp; replace hb := hb.trans (hb7.mono hb.size); clear hb7
  cases b7 with
  | false =>
    clear hp
    go_upto_region 2 with (fail)
    apply wp_region_lit
    (with_reducible refine wl_k ?_ ?_); exact rfl; intro K hK; go_simp; refine hK _ ?_; clear hK K
    go_wp2_with fail
    go_ret
    exact ⟨rfl, hb⟩
  | true =>
    have HN : Hid (t.nodes ≤ 150) := Lib.hid ((HSM.out rfl).2 t (by simp))
    obtain ⟨v1, hv1⟩ : ∃ v, v = validB false t := ⟨_, rfl⟩
    obtain ⟨v2, hv2⟩ : ∃ v, v = validB true t := ⟨_, rfl⟩
    obtain ⟨v3, hv3⟩ : ∃ v, v = t.nodes := ⟨_, rfl⟩
    obtain ⟨v4, hv4⟩ : ∃ v, v = t.all concB := ⟨_, rfl⟩
    have C5 : Hid (∀ w', Below w7.heap.size w7 w' → Calls Tryz.prog 5 #[.agg (cell4 k s n A l c)] w' fun e w2 => e = .returned (.bool v1) ∧ Below w'.heap.size w' w2) := Lib.hid fun w' hw => by rw [hv1]; exact Valid_all t w' _ _ ((HT.out.old hb).old hw)
    have C6 : Hid (∀ w', Below w7.heap.size w7 w' → Calls Tryz.prog 6 #[.agg (cell4 k s n A l c)] w' fun e w2 => e = .returned (.bool v1) ∧ Below w'.heap.size w' w2) := Lib.hid fun w' hw => by rw [hv1]; exact ValidI_any t w' _ _ ((HT.out.old hb).old hw)
    have C7 : Hid (∀ w', Below w7.heap.size w7 w' → Calls Tryz.prog 7 #[.agg (cell4 k s n A l c)] w' fun e w2 => e = .returned (.bool v2) ∧ Below w'.heap.size w' w2) := Lib.hid fun w' hw => by rw [hv2]; exact Open_all t w' _ _ ((HT.out.old hb).old hw)
    have C8 : Hid (∀ w', Below w7.heap.size w7 w' → Calls Tryz.prog 8 #[.agg (cell4 k s n A l c)] w' fun e w2 => e = .returned (.bool v2) ∧ Below w'.heap.size w' w2) := Lib.hid fun w' hw => by rw [hv2]; exact OpenI_any t w' _ _ ((HT.out.old hb).old hw)
    have C9 : Hid (∀ w', Below w7.heap.size w7 w' → Calls Tryz.prog 9 #[.agg (cell4 k s n A l c)] w' fun e w2 => e = .returned (.int .i64 (v3 : Int)) ∧ Below w'.heap.size w' w2) := Lib.hid fun w' hw => by rw [hv3]; exact Size_any t (by have := HN.out; omega) w' _ _ ((HT.out.old hb).old hw)
    have C10 : Hid (∀ w', Below w7.heap.size w7 w' → Calls Tryz.prog 10 #[.agg (cell4 k s n A l c)] w' fun e w2 => e = .returned (.int .i64 (v3 : Int)) ∧ Below w'.heap.size w' w2) := Lib.hid fun w' hw => by rw [hv3]; exact SizeI_any t (by have := HN.out; omega) w' _ _ ((HT.out.old hb).old hw)
    have C11 : Hid (∀ w', Below w7.heap.size w7 w' → Calls Tryz.prog 11 #[.agg (cell4 k s n A l c)] w' fun e w2 => e = .returned (.bool v4) ∧ Below w'.heap.size w' w2) := Lib.hid fun w' hw => by rw [hv4]; exact Concrete_any t w' _ _ ((HT.out.old hb).old hw)
    have C12 : Hid (∀ w', Below w7.heap.size w7 w' → Calls Tryz.prog 12 #[.agg (cell4 k s n A l c)] w' fun e w2 => e = .returned (.bool v4) ∧ Below w'.heap.size w' w2) := Lib.hid fun w' hw => by rw [hv4]; exact ConcI_any t w' _ _ ((HT.out.old hb).old hw)
    clear hv1 hv2 hv3 hv4
    have e1 : (v1 != v1) = false := by simp
    have e2 : (v2 != v2) = false := by simp
    have e3 : ((v3 : Int) != (v3 : Int)) = false := by simp
    have e4 : (v4 != v4) = false := by simp
    go_upto_region 3 with (fail)
    refine wp_region_belowAll mixed (by kernel_rfl) ?_
    (first | ((with_reducible apply wq_one); exact rfl; exact rfl; intro w' hw'; first | exact f0 (below_look hw' (by with_reducible assumption)) | exact f1 (below_look hw' (by with_reducible assumption)) | exact f2 (below_look hw' (by with_reducible assumption)) | exact f3 (below_look hw' (by with_reducible assumption)) ) | ((with_reducible apply wq_row); exact rfl; exact rfl; intro w' hw'; first | exact RowK.at (by with_reducible assumption) hw' | exact f4 (below_look hw' (by with_reducible assumption))))
    refine wq_ck rfl (fun K hK => ?_); go_simp; refine ⟨_, _, ⟨rfl, rfl⟩, hK _ _ ⟨_, fun w' hw' => calls_class hw' (C5.out w' hw'), ?_⟩⟩; clear hK K; simp only [put_lit, List.set_cons_zero, List.set_cons_succ]
    (first | ((with_reducible apply wq_one); exact rfl; exact rfl; intro w' hw'; first | exact f0 (below_look hw' (by with_reducible assumption)) | exact f1 (below_look hw' (by with_reducible assumption)) | exact f2 (below_look hw' (by with_reducible assumption)) | exact f3 (below_look hw' (by with_reducible assumption)) ) | ((with_reducible apply wq_row); exact rfl; exact rfl; intro w' hw'; first | exact RowK.at (by with_reducible assumption) hw' | exact f4 (below_look hw' (by with_reducible assumption))))
    refine wq_ck rfl (fun K hK => ?_); go_simp; refine ⟨_, _, ⟨rfl, rfl⟩, hK _ _ ⟨_, fun w' hw' => calls_class hw' (C6.out w' hw'), ?_⟩⟩; clear hK K; simp only [put_lit, List.set_cons_zero, List.set_cons_succ]
    (with_reducible refine wq_k ?_ ?_); exact rfl; intro K hK; go_simp; (with_reducible refine hK _ ?_); clear hK K
    (with_reducible refine wq_k ?_ ?_); exact rfl; intro K hK; go_simp; (with_reducible refine hK _ ?_); clear hK K
    (first | ((with_reducible apply wq_one); exact rfl; exact rfl; intro w' hw'; first | exact f0 (below_look hw' (by with_reducible assumption)) | exact f1 (below_look hw' (by with_reducible assumption)) | exact f2 (below_look hw' (by with_reducible assumption)) | exact f3 (below_look hw' (by with_reducible assumption)) ) | ((with_reducible apply wq_row); exact rfl; exact rfl; intro w' hw'; first | exact RowK.at (by with_reducible assumption) hw' | exact f4 (below_look hw' (by with_reducible assumption))))
    refine wq_ck rfl (fun K hK => ?_); go_simp; refine ⟨_, _, ⟨rfl, rfl⟩, hK _ _ ⟨_, fun w' hw' => calls_class hw' (C7.out w' hw'), ?_⟩⟩; clear hK K; simp only [put_lit, List.set_cons_zero, List.set_cons_succ]
    (first | ((with_reducible apply wq_one); exact rfl; exact rfl; intro w' hw'; first | exact f0 (below_look hw' (by with_reducible assumption)) | exact f1 (below_look hw' (by with_reducible assumption)) | exact f2 (below_look hw' (by with_reducible assumption)) | exact f3 (below_look hw' (by with_reducible assumption)) ) | ((with_reducible apply wq_row); exact rfl; exact rfl; intro w' hw'; first | exact RowK.at (by with_reducible assumption) hw' | exact f4 (below_look hw' (by with_reducible assumption))))
    refine wq_ck rfl (fun K hK => ?_); go_simp; refine ⟨_, _, ⟨rfl, rfl⟩, hK _ _ ⟨_, fun w' hw' => calls_class hw' (C8.out w' hw'), ?_⟩⟩; clear hK K; simp only [put_lit, List.set_cons_zero, List.set_cons_succ]
    (with_reducible refine wq_k ?_ ?_); exact rfl; intro K hK; go_simp; (with_reducible refine hK _ ?_); clear hK K
    (with_reducible refine wq_k ?_ ?_); exact rfl; intro K hK; go_simp; (with_reducible refine hK _ ?_); clear hK K
    (with_reducible refine wq_k ?_ ?_); exact rfl; intro K hK; go_simp; (with_reducible refine hK _ ?_); clear hK K
    (first | ((with_reducible apply wq_one); exact rfl; exact rfl; intro w' hw'; first | exact f0 (below_look hw' (by with_reducible assumption)) | exact f1 (below_look hw' (by with_reducible assumption)) | exact f2 (below_look hw' (by with_reducible assumption)) | exact f3 (below_look hw' (by with_reducible assumption)) ) | ((with_reducible apply wq_row); exact rfl; exact rfl; intro w' hw'; first | exact RowK.at (by with_reducible assumption) hw' | exact f4 (below_look hw' (by with_reducible assumption))))
    refine wq_ck rfl (fun K hK => ?_); go_simp; refine ⟨_, _, ⟨rfl, rfl⟩, hK _ _ ⟨_, fun w' hw' => calls_class hw' (C9.out w' hw'), ?_⟩⟩; clear hK K; simp only [put_lit, List.set_cons_zero, List.set_cons_succ]
    (first | ((with_reducible apply wq_one); exact rfl; exact rfl; intro w' hw'; first | exact f0 (below_look hw' (by with_reducible assumption)) | exact f1 (below_look hw' (by with_reducible assumption)) | exact f2 (below_look hw' (by with_reducible assumption)) | exact f3 (below_look hw' (by with_reducible assumption)) ) | ((with_reducible apply wq_row); exact rfl; exact rfl; intro w' hw'; first | exact RowK.at (by with_reducible assumption) hw' | exact f4 (below_look hw' (by with_reducible assumption))))
    refine wq_ck rfl (fun K hK => ?_); go_simp; refine ⟨_, _, ⟨rfl, rfl⟩, hK _ _ ⟨_, fun w' hw' => calls_class hw' (C10.out w' hw'), ?_⟩⟩; clear hK K; simp only [put_lit, List.set_cons_zero, List.set_cons_succ]
    (with_reducible refine wq_k ?_ ?_); exact rfl; intro K hK; go_simp; (with_reducible refine hK _ ?_); clear hK K
    (with_reducible refine wq_k ?_ ?_); exact rfl; intro K hK; go_simp; (with_reducible refine hK _ ?_); clear hK K
    (with_reducible refine wq_k ?_ ?_); exact rfl; intro K hK; go_simp; (with_reducible refine hK _ ?_); clear hK K
    (first | ((with_reducible apply wq_one); exact rfl; exact rfl; intro w' hw'; first | exact f0 (below_look hw' (by with_reducible assumption)) | exact f1 (below_look hw' (by with_reducible assumption)) | exact f2 (below_look hw' (by with_reducible assumption)) | exact f3 (below_look hw' (by with_reducible assumption)) ) | ((with_reducible apply wq_row); exact rfl; exact rfl; intro w' hw'; first | exact RowK.at (by with_reducible assumption) hw' | exact f4 (below_look hw' (by with_reducible assumption))))
    refine wq_ck rfl (fun K hK => ?_); go_simp; refine ⟨_, _, ⟨rfl, rfl⟩, hK _ _ ⟨_, fun w' hw' => calls_class hw' (C11.out w' hw'), ?_⟩⟩; clear hK K; simp only [put_lit, List.set_cons_zero, List.set_cons_succ]
    (first | ((with_reducible apply wq_one); exact rfl; exact rfl; intro w' hw'; first | exact f0 (below_look hw' (by with_reducible assumption)) | exact f1 (below_look hw' (by with_reducible assumption)) | exact f2 (below_look hw' (by with_reducible assumption)) | exact f3 (below_look hw' (by with_reducible assumption)) ) | ((with_reducible apply wq_row); exact rfl; exact rfl; intro w' hw'; first | exact RowK.at (by with_reducible assumption) hw' | exact f4 (below_look hw' (by with_reducible assumption))))
    refine wq_ck rfl (fun K hK => ?_); go_simp; refine ⟨_, _, ⟨rfl, rfl⟩, hK _ _ ⟨_, fun w' hw' => calls_class hw' (C12.out w' hw'), ?_⟩⟩; clear hK K; simp only [put_lit, List.set_cons_zero, List.set_cons_succ]
    (with_reducible refine wq_k ?_ ?_); exact rfl; intro K hK; go_simp; (with_reducible refine hK _ ?_); clear hK K
    (with_reducible refine wq_k ?_ ?_); exact rfl; intro K hK; go_simp; (with_reducible refine hK _ ?_); clear hK K
    intro w8 hb8
    clear C5 C6 C7 C8 C9 C10 C11 C12 e1 e2 e3 e4
    replace hp := below_look hb8 hp; replace hb := hb.trans (hb8.mono hb.size); clear hb8
    have P1 : Hid (∀ w', Below w8.heap.size w8 w' → Calls Tryz.prog 14 #[.agg (cell4 k s n A l c)] w' fun e w2 => ∃ A l c, e = .returned (.slice A l c) ∧ TxAt w2 (distinctL (namesOf t)) A l c ∧ Below w'.heap.size w' w2) := Lib.hid fun w' hw => Params_any t (by have := HN.out; omega) w' _ _ ((HT.out.old hb).old hw)
    have P2 : Hid (∀ w', Below w8.heap.size w8 w' → Calls Tryz.prog 15 #[.agg (cell4 k s n A l c)] w' (PsPost w' t)) := Lib.hid fun w' hw => ParamsS_any t (by have := HN.out; omega) w' _ _ ((HT.out.old hb).old hw)
    have P3 : Hid (∀ w', Below w8.heap.size w8 w' → Calls Tryz.prog 17 #[.agg (cell4 k s n A l c)] w' fun e w2 => ∃ A l c, e = .returned (.slice A l c) ∧ IxAt w2 (distinctI (varsOf t)) A l c ∧ Below w'.heap.size w' w2) := Lib.hid fun w' hw => Vars_any t (by have := HN.out; omega) w' _ _ ((HT.out.old hb).old hw)
    have P4 : Hid (∀ w', Below w8.heap.size w8 w' → Calls Tryz.prog 18 #[.agg (cell4 k s n A l c)] w' (VsPostN w' t)) := Lib.hid fun w' hw => VarsN_any t (by have := HN.out; omega) w' _ _ ((HT.out.old hb).old hw)
    go_upto_region 5 with (fail)
    refine wp_region_held_drew (S := Below w8.heap.size w8) mixed ((Below.refl _ _).drew) (fun hS => ?_)
    refine ha_val (i := 0) rfl (by kernel_rfl) (by kernel_rfl) (by kernel_rfl) (fun _ _ _ h => h) hS rfl (fun w' hw' => ex_row rfl (f4 (below_look hw' hp))) ?_; try simp only [List.getElem_toArray, List.getElem_cons_succ, List.getElem_cons_zero, put_lit, List.set_cons_zero, List.set_cons_succ]
    refine ha_val (i := 2) rfl (by kernel_rfl) (by kernel_rfl) (by kernel_rfl) (fun _ _ _ h => h) hS rfl (fun w' hw' => ex_row rfl (f4 (below_look hw' hp))) ?_; try simp only [List.getElem_toArray, List.getElem_cons_succ, List.getElem_cons_zero, put_lit, List.set_cons_zero, List.set_cons_succ]
    refine ha_call (i := 1) (by kernel_rfl) rfl rfl (fun K hK => ?_); go_simp; refine ⟨_, _, ⟨rfl, rfl⟩, hK _ _ ⟨_, P1.out _ hS, ?_⟩⟩; clear hK K; rintro e w9 ⟨A1, l1, c1, rfl, htx1, hb9⟩; refine ⟨_, rfl, hS.trans (hb9.mono hS.size), ?_⟩
    replace hS := hS.trans (hb9.mono hS.size)
    have HX1 := Lib.hid htx1
    clear htx1 hb9
    try simp only [List.getElem_toArray, List.getElem_cons_succ, List.getElem_cons_zero, put_lit, List.set_cons_zero, List.set_cons_succ]
    refine ha_call (i := 3) (by kernel_rfl) rfl rfl (fun K hK => ?_); go_simp; refine ⟨_, _, ⟨rfl, rfl⟩, hK _ _ ⟨_, P2.out _ hS, ?_⟩⟩; clear hK K; rintro e wa ⟨A2, l2, c2, ns, rfl, hown, hmem, hln, hsr, hnd, hba⟩; refine ⟨_, rfl, hS.trans (hba.mono hS.size), ?_⟩
    replace hS := hS.trans (hba.mono hS.size)
    have HX2 : Hid (TxAt wa (distinctL (namesOf t)) A2 l2 c2) := Lib.hid (by
      obtain ⟨A', l', c', e, htx⟩ := hown.tx
      cases e
      exact tx_same htx (pars_one hmem hsr hnd).symm)
    replace HX1 := Lib.hid (HX1.out.old hba)
    clear hown hmem hln hsr hnd hba
    try simp only [List.getElem_toArray, List.getElem_cons_succ, List.getElem_cons_zero, put_lit, List.set_cons_zero, List.set_cons_succ]
    obtain rfl : l1 = l2 := by rw [← HX1.out.len, HX2.out.len]
    have HQ := Lib.hid (EqStrings_same _ A1 A2 l1 c1 c2 wa HX1.out HX2.out)
    refine ha_call (i := 4) (by kernel_rfl) rfl rfl (fun K hK => ?_); go_simp; refine ⟨_, _, ⟨rfl, rfl⟩, hK _ _ ⟨_, HQ.out, ?_⟩⟩; clear hK K; rintro e wb ⟨rfl, hbb⟩; refine ⟨_, rfl, hS.trans (hbb.mono hS.size), ?_⟩
    replace hS := hS.trans (hbb.mono hS.size)
    clear hbb HQ HX1 HX2
    try simp only [List.getElem_toArray, List.getElem_cons_succ, List.getElem_cons_zero, put_lit, List.set_cons_zero, List.set_cons_succ]
    refine ha_k (i := 5) rfl (by kernel_rfl) (by kernel_rfl) (by kernel_rfl) (fun _ _ _ _ h => h) hS rfl (fun K hK => ?_); go_simp; refine hK _ ?_; clear hK K; try simp only [put_lit, List.set_cons_zero, List.set_cons_succ]
    refine ha_val (i := 6) rfl (by kernel_rfl) (by kernel_rfl) (by kernel_rfl) (fun _ _ _ h => h) hS rfl (fun w' hw' => ex_row rfl (f4 (below_look hw' hp))) ?_; try simp only [List.getElem_toArray, List.getElem_cons_succ, List.getElem_cons_zero, put_lit, List.set_cons_zero, List.set_cons_succ]
    refine ha_val (i := 8) rfl (by kernel_rfl) (by kernel_rfl) (by kernel_rfl) (fun _ _ _ h => h) hS rfl (fun w' hw' => ex_row rfl (f4 (below_look hw' hp))) ?_; try simp only [List.getElem_toArray, List.getElem_cons_succ, List.getElem_cons_zero, put_lit, List.set_cons_zero, List.set_cons_succ]
    refine ha_call (i := 7) (by kernel_rfl) rfl rfl (fun K hK => ?_); go_simp; refine ⟨_, _, ⟨rfl, rfl⟩, hK _ _ ⟨_, P3.out _ hS, ?_⟩⟩; clear hK K; rintro e wc ⟨A3, l3, c3, rfl, hix3, hbc⟩; refine ⟨_, rfl, hS.trans (hbc.mono hS.size), ?_⟩
    replace hS := hS.trans (hbc.mono hS.size)
    have HX3 := Lib.hid hix3
    clear hix3 hbc
    try simp only [List.getElem_toArray, List.getElem_cons_succ, List.getElem_cons_zero, put_lit, List.set_cons_zero, List.set_cons_succ]
    refine ha_call (i := 9) (by kernel_rfl) rfl rfl (fun K hK => ?_); go_simp; refine ⟨_, _, ⟨rfl, rfl⟩, hK _ _ ⟨_, P4.out _ hS, ?_⟩⟩; clear hK K; rintro e wd ⟨A4, l4, c4, ns4, rfl, hown, hmem, hln, hsr, hnd, hbd⟩; refine ⟨_, rfl, hS.trans (hbd.mono hS.size), ?_⟩
    replace hS := hS.trans (hbd.mono hS.size)
    have HX4 : Hid (IxAt wd (distinctI (varsOf t)) A4 l4 c4) := Lib.hid (by
      obtain ⟨A', l', c', e, htx⟩ := hown.ix
      cases e
      rw [← nums_one hmem hsr hnd]
      exact htx)
    replace HX3 := Lib.hid (HX3.out.old hbd)
    clear hown hmem hln hsr hnd hbd
    try simp only [List.getElem_toArray, List.getElem_cons_succ, List.getElem_cons_zero, put_lit, List.set_cons_zero, List.set_cons_succ]
    obtain rfl : l3 = l4 := by rw [← HX3.out.1, HX4.out.1]
    have HQ := Lib.hid (EqInts_same _ A3 A4 l3 c3 c4 wd HX3.out HX4.out)
    refine ha_call (i := 10) (by kernel_rfl) rfl rfl (fun K hK => ?_); go_simp; refine ⟨_, _, ⟨rfl, rfl⟩, hK _ _ ⟨_, HQ.out, ?_⟩⟩; clear hK K; rintro e we ⟨rfl, hbe⟩; refine ⟨_, rfl, hS.trans (hbe.mono hS.size), ?_⟩
    replace hS := hS.trans (hbe.mono hS.size)
    clear hbe HQ HX3 HX4
    try simp only [List.getElem_toArray, List.getElem_cons_succ, List.getElem_cons_zero, put_lit, List.set_cons_zero, List.set_cons_succ]
    refine ha_k (i := 11) rfl (by kernel_rfl) (by kernel_rfl) (by kernel_rfl) (fun _ _ _ _ h => h) hS rfl (fun K hK => ?_); go_simp; refine hK _ ?_; clear hK K; try simp only [put_lit, List.set_cons_zero, List.set_cons_succ]
    refine ha_k (i := 12) rfl (by kernel_rfl) (by kernel_rfl) (by kernel_rfl) (fun _ _ _ _ h => h) hS rfl (fun K hK => ?_); go_simp; refine hK _ ?_; clear hK K; try simp only [put_lit, List.set_cons_zero, List.set_cons_succ]
    have HQ := Lib.hid (awake_any we)
    refine ha_call (i := 13) (by kernel_rfl) rfl rfl (fun K hK => ?_); go_simp; refine ⟨_, _, ⟨rfl, rfl⟩, hK _ _ ⟨_, HQ.out, ?_⟩⟩; clear hK K; rintro e wf ⟨rfl, hbf⟩; refine ⟨_, rfl, hS.trans (hbf.mono hS.size), ?_⟩
    replace hS := hS.trans (hbf.mono hS.size)
    clear hbf HQ P1 P2 P3 P4
    try simp only [List.getElem_toArray, List.getElem_cons_succ, List.getElem_cons_zero, put_lit, List.set_cons_zero, List.set_cons_succ]
    refine ha_k (i := 14) rfl (by kernel_rfl) (by kernel_rfl) (by kernel_rfl) (fun _ _ _ _ h => h) hS rfl (fun K hK => ?_); go_simp; refine hK _ ?_; clear hK K; try simp only [put_lit, List.set_cons_zero, List.set_cons_succ]
    refine ha_k (i := 15) rfl (by kernel_rfl) (by kernel_rfl) (by kernel_rfl) (fun _ _ _ _ h => h) hS rfl (fun K hK => ?_); go_simp; refine hK _ ?_; clear hK K; try simp only [put_lit, List.set_cons_zero, List.set_cons_succ]
    refine wpAnyH_done (by kernel_rfl) ?_ _
    replace hb := hb.trans (hS.mono hb.size)
    clear hS hp
    go_wp2_with fail
    go_ret
    exact ⟨rfl, hb⟩
end Go.Proofs.YtokmaehefenpmaaGreatDoor
