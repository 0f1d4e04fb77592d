/- The program's Apply and Func. Format, and 'awake'. The text of any open tree: Format. What a match holds, in memory: the row of trees and the row of marks. Contracts of the shelf at this dump, in plain words (written by the kit's own tools; those that are wanted). The reader in memory: take, want. -/
import Derived.Test.YtokmaehefenpmaaDoorPA1
import Derived.Test.YtokmaehefenpmaaDoorPA2
import Derived.Test.YtokmaehefenpmaaDoorPA3
import Derived.Test.YtokmaehefenpmaaDoorPA7
import Derived.Laws.CopyRow
import Derived.Laws.MakeOwn
import Derived.Shelf.Small.Wraps
import Derived.Shelf.LaysM
import Derived.Shelf.Strconv.AtoiAll
import Derived.Test.YtokmaehefenpmaaDoorProg
namespace Go.Proofs.YtokmaehefenpmaaDoor
open Go.RowKit Go.Proofs.YtokmaehefenpmaaDoor.Nm
set_option linter.unusedSimpArgs false
theorem built24k (k : Int) : Tryd.prog.built 24 [(0, .int .i64 k)] = some (cell4 k ⟨#[]⟩ 0 none 0 0) := by kernel_rfl
end Go.Proofs.YtokmaehefenpmaaDoor
namespace Go.Proofs.YtokmaehefenpmaaDoor
open Go.RowKit Go.Proofs.YtokmaehefenpmaaDoor.Nm
set_option linter.unusedSimpArgs false
theorem ex_alloc74 {o : Oper} (ho : o.op = .alloc 74) (ev : Operand → Value) (w : World) : (execOp ev o).run Tryd.prog w = .ok (.value (.pointer (some ⟨w.heap.size, 0, none⟩))) (w.alloc (.cells #[.pointer none, .slice none 0 0] 74)) := by
  unfold execOp
  simp only [ho]
  kernel_rfl
theorem built76 (b : Nat) : Tryd.prog.built 76 [(0, .pointer (some ⟨b, 0, none⟩))] = some #[.pointer (some ⟨b, 0, none⟩)] := by kernel_rfl
theorem Bd_new (w : World) : Bd (w.alloc (.cells #[.pointer none, .slice none 0 0] 74)) w.heap.size w.heap.size [] :=
  Or.inl ⟨Nat.le_refl _, .slice none 0 0, ha_new rfl, World.ownsRowF_nil _ _ _ _, by simp [Value.ownBlock]⟩
set_option maxHeartbeats 4000000 in
set_option maxRecDepth 100000 in
/-- Format of a tree that is open. -/
theorem Format_ok (txt : Ty → List UInt8) (t : Ty) (w : World) (D : Nat → Prop) (row : Array Value) (h : TyAt w D t row) (hO : ∀ w' D', TyAt w' D' t row → Calls Tryd.prog 59 #[.agg row] w' fun e w2 => e = .returned (.bool true) ∧ Below w'.heap.size w' w2) (hC : TypC txt t) (hlen : (txt t).length ≤ 1000000000) :
    Calls Tryd.prog 33 #[.agg row] w fun e w' => e = .returned (.tuple #[.string ⟨(txt t).toArray⟩, .int .i64 0]) ∧ Below w.heap.size w w' := by
  obtain ⟨D, h, hlow⟩ : ∃ D : Nat → Prop, TyAt w D t row ∧ ∀ b, D b → b < w.heap.size := ⟨fun b => D b ∧ b < w.heap.size, h.low, fun b hb => hb.2⟩
  obtain ⟨k, s, n, A, l, c, ts, he, rfl, -⟩ := h.parts
  have HT := Lib.hid h
  have HLW := Lib.hid hlow
  have HO := Lib.hid hO
  have HTC := Lib.hid hC
  have HLN := Lib.hid hlen
  clear h hlow hO hC hlen he
  have hb := Below.refl w.heap.size w
  go_enter Tryd.func33, Tryd.ntmps33
  go_upto_region 0 with (fail)
  apply wp_region_lit
  (with_reducible refine wl_box rfl ?_); intro W p hbn hlp hp; replace hb := hb.trans (hbn.mono hb.size); clear hbn; simp only [put_lit, List.set_cons_zero, List.set_cons_succ]
  (with_reducible refine wl_k ?_ ?_); exact rfl; intro K hK; go_simp; refine hK _ ?_; clear hK K
  (with_reducible refine wl_k ?_ ?_); exact rfl; intro K hK; go_simp; refine hK _ ?_; clear hK K
  have HC := Lib.hid (HO.out W D (HT.out.old hb))
  go_upto_region 1 with (fail)
  apply wp_region_lit
  (first | ((with_reducible apply wl_oneG); exact rfl; exact rfl; first | exact f0 (by with_reducible assumption) | exact f1 (by with_reducible assumption) | exact f2 (by with_reducible assumption) | exact f3 (by with_reducible assumption) | with_reducible assumption | exact g22 (by with_reducible assumption) | exact g25 (by with_reducible assumption)) | ((with_reducible apply wl_rowG); exact rfl; exact rfl; first | with_reducible assumption | exact RowK.now (by with_reducible assumption) | exact f4 (by with_reducible assumption)))
  (with_reducible refine wl_ck ?_ ?_); exact rfl; intro K hK; go_simp; refine ⟨_, _, ⟨rfl, rfl⟩, hK _ _ ⟨_, HC.out, ?_⟩⟩; clear hK K; rintro e w6 ⟨rfl, hb6⟩; refine ⟨_, rfl, ?_⟩; simp only [put_lit, List.set_cons_zero, List.set_cons_succ]
  (with_reducible refine wl_k ?_ ?_); exact rfl; intro K hK; go_simp; refine hK _ ?_; clear hK K
  replace hp := below_look hb6 hp; replace hb := hb.trans (hb6.mono hb.size); clear hb6
  clear HC HO
  go_upto_region 3 with (fail)
  apply wp_region_lit
  refine wl_w rfl (ex_alloc74 rfl _ _) ?_
  simp only [put_lit, List.set_cons_zero, List.set_cons_succ]
  have HBd := Lib.hid (Bd_new w6)
  have hb7 := (Below.refl w6.heap.size w6).alloc (Nat.le_refl _) (.cells #[.pointer none, .slice none 0 0] 74)
  have hsz : w6.heap.size ≤ (w6.alloc (.cells #[.pointer none, .slice none 0 0] 74)).heap.size := hb7.size
  have hpl := heap_lt hp
  have hps := hb.size
  replace hp := below_look hb7 hp
  replace hb := hb.trans (hb7.mono hps)
  generalize hW : w6.alloc (.cells #[.pointer none, .slice none 0 0] 74) = W2 at *
  clear hW hb7
  obtain ⟨b, hbe⟩ : ∃ b, b = w6.heap.size := ⟨_, rfl⟩
  rw [← hbe] at HBd hsz ⊢
  have hbw : w.heap.size ≤ b := by omega
  clear hbe hpl hps
  have HC := Lib.hid (HTC.out W2 b b [] D _ HBd.out hsz (by simpa using HLN.out) (HT.out.old hb) (fun x hx => by have := HLW.out x hx; omega))
  go_upto_region 4 with (fail)
  apply wp_region_lit
  refine wl_val rfl (ex_build 76 _ rfl (L := [(0, .pointer (some ⟨b, 0, none⟩))]) rfl (built76 b)) ?_
  simp only [put_lit, List.set_cons_zero, List.set_cons_succ]
  (first | ((with_reducible apply wl_oneG); exact rfl; exact rfl; first | exact f0 (by with_reducible assumption) | exact f1 (by with_reducible assumption) | exact f2 (by with_reducible assumption) | exact f3 (by with_reducible assumption) | with_reducible assumption | exact g22 (by with_reducible assumption) | exact g25 (by with_reducible assumption)) | ((with_reducible apply wl_rowG); exact rfl; exact rfl; first | with_reducible assumption | exact RowK.now (by with_reducible assumption) | exact f4 (by with_reducible assumption)))
  (with_reducible refine wl_ck ?_ ?_); exact rfl; intro K hK; go_simp; refine ⟨_, _, ⟨rfl, rfl⟩, hK _ _ ⟨_, HC.out, ?_⟩⟩; clear hK K; rintro e w8 ⟨rfl, hbd8, hk8⟩; refine ⟨_, rfl, ?_⟩; simp only [put_lit, List.set_cons_zero, List.set_cons_succ]
  rw [List.nil_append] at hbd8
  replace hb := hb.trans (hk8.below.mono hbw)
  have hs8 := hk8.size
  have HS := Lib.hid (Tryd.Builder_String_any_k b b (txt t) w8 hbd8 (by omega))
  clear hbd8 hk8 HC hp HBd
  go_upto_region 5 with (fail)
  apply wp_region_lit
  (with_reducible refine wl_ck ?_ ?_); exact rfl; intro K hK; go_simp; refine ⟨_, _, ⟨rfl, rfl⟩, hK _ _ ⟨_, HS.out, ?_⟩⟩; clear hK K; rintro e w9 ⟨rfl, -, hb9, -⟩; refine ⟨_, rfl, ?_⟩; simp only [put_lit, List.set_cons_zero, List.set_cons_succ]
  (with_reducible refine wl_k ?_ ?_); exact rfl; intro K hK; go_simp; refine hK _ ?_; clear hK K
  (with_reducible refine wl_k ?_ ?_); exact rfl; intro K hK; go_simp; refine hK _ ?_; clear hK K
  replace hb := hb.trans (hb9.mono hbw)
  clear hb9 HS
  go_wp2_with fail
  go_ret2
  exact ⟨rfl, hb⟩
def textA (t : Ty) : List UInt8 := if t = arrTy then [65, 114, 114, 97, 121, 60, 73, 110, 116, 62] else [73, 110, 116]
theorem dig0 : (⟨(Lib.decDigits 0).toArray⟩ : ByteArray).size ≤ 100 := by simp [Lib.decDigits, ByteArray.size]
theorem typ_int : TypC textA intTy := typ_simple textA 1 ⟨#[]⟩ 0 [] 1 (by decide) rfl (by omega) dig0 (by decide) (fun t h => by cases h) rfl
theorem typ_arr : TypC textA arrTy := typ_simple textA 5 ⟨#[]⟩ 0 [intTy] 5 (by decide) rfl (by omega) dig0 (by decide) (fun t h => by simp at h; subst h; exact typ_int) rfl
theorem open_arr (w : World) (D : Nat → Prop) (row : Array Value) (h : TyAt w D arrTy row) : Calls Tryd.prog 59 #[.agg row] w fun e w2 => e = .returned (.bool true) ∧ Below w.heap.size w w2 :=
  Open_any (fun _ => true) Two (fun t ht => two_sh true t ht) two_sub arrTy (Or.inr rfl) w D row h
theorem valid_int (w : World) (D : Nat → Prop) (row : Array Value) (h : TyAt w D intTy row) : Calls Tryd.prog 47 #[.agg row] w fun e w2 => e = .returned (.bool true) ∧ Below w.heap.size w w2 :=
  Valid_any (fun _ => true) Two (fun t ht => two_sh false t ht) two_sub intTy (Or.inl rfl) w D row h
theorem built24a (A : Option Addr) (l c : Nat) : Tryd.prog.built 24 [(0, .int .i64 5), (3, .slice A l c)] = some (cell4 5 ⟨#[]⟩ 0 A l c) := by kernel_rfl
set_option maxHeartbeats 4000000 in
set_option maxRecDepth 100000 in
theorem awake_any (w : World) : Calls Tryd.prog 19 #[] w fun e w' => e = .returned (.bool true) ∧ Below w.heap.size w w' := by
  have hb := Below.refl w.heap.size w
  go_enter Tryd.func19, Tryd.ntmps19
  go_upto_region 1 with (fail)
  apply wp_region_lit
  refine wl_val rfl (ex_build 24 _ rfl (L := [(0, .int .i64 1)]) rfl (built24k 1)) ?_
  simp only [put_lit, List.set_cons_zero, List.set_cons_succ]
  (with_reducible refine wl_bs rfl ?_); intro W p hbn hlp hp; replace hb := hb.trans (hbn.mono hb.size); clear hbn; simp only [put_lit, List.set_cons_zero, List.set_cons_succ]
  refine wl_val rfl (ex_build 24 _ rfl (L := [(0, .int .i64 5), (3, .slice (some ⟨p, 0, none⟩) 1 1)]) rfl (built24a _ _ _)) ?_
  simp only [put_lit, List.set_cons_zero, List.set_cons_succ]
  have hint : ∀ w', TyAt w' Any intTy (cell4 1 ⟨#[]⟩ 0 none 0 0) := fun w' => TyAt.of (by rfl) (by rfl) (Nat.zero_le _) (TysAt.nil _ _)
  have hT : TysAt W Any [intTy] (some ⟨p, 0, none⟩) 1 1 := ⟨rfl, Nat.le_refl _, by unfold maxLen; omega, fun _ => cell4 1 ⟨#[]⟩ 0 none 0 0, fun i t ht => by
    cases i with
    | zero => exact ⟨p, 0, _, 24, (0, 0), rfl, trivial, hp, by rfl⟩
    | succ i => simp at ht, fun i t ht => by
    cases i with
    | zero => simp at ht; subst ht; exact hint W
    | succ i => simp at ht⟩
  have hA : TyAt W Any arrTy (cell4 5 ⟨#[]⟩ 0 (some ⟨p, 0, none⟩) 1 1) := TyAt.of (by rfl) (by rfl) (Nat.zero_le _) hT
  have HC := Lib.hid (Format_ok textA arrTy W Any _ hA (fun w' D' h => open_arr w' D' _ h) typ_arr (by decide))
  have HI := Lib.hid hint
  clear hint hT hA hp
  (with_reducible refine wl_ck ?_ ?_); exact rfl; intro K hK; go_simp; refine ⟨_, _, ⟨rfl, rfl⟩, hK _ _ ⟨_, HC.out, ?_⟩⟩; clear hK K; rintro e w6 ⟨rfl, hb6⟩; refine ⟨_, rfl, ?_⟩; simp only [put_lit, List.set_cons_zero, List.set_cons_succ]
  replace hb := hb.trans (hb6.mono hb.size); clear hb6
  (with_reducible refine wl_k ?_ ?_); exact rfl; intro K hK; go_simp; refine hK _ ?_; clear hK K
  (with_reducible refine wl_k ?_ ?_); exact rfl; intro K hK; go_simp; refine hK _ ?_; clear hK K
  (with_reducible refine wl_k ?_ ?_); exact rfl; intro K hK; go_simp; refine hK _ ?_; clear hK K
  (with_reducible refine wl_k ?_ ?_); exact rfl; intro K hK; go_simp; refine hK _ ?_; clear hK K
  (with_reducible refine wl_k ?_ ?_); exact rfl; intro K hK; go_simp; refine hK _ ?_; clear hK K
  have HV := Lib.hid (valid_int w6 Any _ (HI.out w6))
  have e1 : (textA arrTy) = [65, 114, 114, 97, 121, 60, 73, 110, 116, 62] := rfl
  rw [e1]
  clear e1 HC HI
  go_upto_region 2 with (fail)
  apply wp_region_lit
  (with_reducible refine wl_k ?_ ?_); exact rfl; intro K hK; go_simp; refine hK _ ?_; clear hK K
  (with_reducible refine wl_k ?_ ?_); exact rfl; intro K hK; go_simp; refine hK _ ?_; clear hK K
  (with_reducible refine wl_k ?_ ?_); exact rfl; intro K hK; go_simp; refine hK _ ?_; clear hK K
  (with_reducible refine wl_k ?_ ?_); exact rfl; intro K hK; go_simp; refine hK _ ?_; clear hK K
  (with_reducible refine wl_k ?_ ?_); exact rfl; intro K hK; go_simp; refine hK _ ?_; clear hK K
  (with_reducible refine wl_k ?_ ?_); exact rfl; intro K hK; go_simp; refine hK _ ?_; clear hK K
  (with_reducible refine wl_k ?_ ?_); exact rfl; intro K hK; go_simp; refine hK _ ?_; clear hK K
  refine wl_k rfl (fun K hK => ⟨_, ex_build 24 _ rfl (L := [(0, .int .i64 1)]) rfl (built24k 1), hK _ ?_⟩); clear hK K
  simp only [put_lit, List.set_cons_zero, List.set_cons_succ]
  (with_reducible refine wl_ck ?_ ?_); exact rfl; intro K hK; go_simp; refine ⟨_, _, ⟨rfl, rfl⟩, hK _ _ ⟨_, HV.out, ?_⟩⟩; clear hK K; rintro e w7 ⟨rfl, hb7⟩; refine ⟨_, rfl, ?_⟩; simp only [put_lit, List.set_cons_zero, List.set_cons_succ]
  (with_reducible refine wl_k ?_ ?_); exact rfl; intro K hK; go_simp; refine hK _ ?_; clear hK K
  (with_reducible refine wl_k ?_ ?_); exact rfl; intro K hK; go_simp; refine hK _ ?_; clear hK K
  replace hb := hb.trans (hb7.mono hb.size); clear hb7
  clear HV
  go_wp2_with fail
  go_ret
  exact ⟨rfl, hb⟩
end Go.Proofs.YtokmaehefenpmaaDoor
namespace Go.Proofs.YtokmaehefenpmaaDoor
open Go.RowKit Go.Proofs.YtokmaehefenpmaaDoor.Nm
set_option linter.unusedSimpArgs false
theorem alls_mem {f : Ty → Bool} : ∀ {l : List Ty}, alls f l = true → ∀ u, u ∈ l → u.all f = true
  | [], _, u, hu => by cases hu
  | t :: l, h, u, hu => by
    simp only [alls, Bool.and_eq_true] at h
    rcases List.mem_cons.1 hu with rfl | hu
    · exact h.1
    · exact alls_mem h.2 u hu
theorem empty_size {s : ByteArray} (h : s.toList.isEmpty = true) : s.size = 0 := by
  rw [ByteArray.toList_eq, List.isEmpty_iff] at h
  have : s.data.toList.length = 0 := by rw [h]; rfl
  exact this
theorem tname_size {s : ByteArray} (h : tnameB s = true) : s.size ≤ 24 := by
  unfold tnameB at h
  rw [Bool.and_eq_true] at h
  exact of_decide_eq_true h.1
/-- The name of a node of an open tree is short. -/
theorem node_size {v : Bool} {k : Int} {s : ByteArray} {n : Int} {l : List Ty} (h : nodeK v k s n l = true) : s.size ≤ 24 := by
  unfold nodeK at h
  split at h
  · simp only [Bool.and_eq_true] at h; rw [empty_size h.2]; omega
  · split at h
    · simp only [Bool.and_eq_true] at h; rw [empty_size h.2]; omega
    · split at h
      · simp only [Bool.and_eq_true] at h; exact tname_size h.2.2
      · split at h
        · simp only [Bool.and_eq_true] at h; exact tname_size h.2
        · split at h
          · split at h
            · simp only [Bool.and_eq_true] at h; exact tname_size h.2.2
            · cases h
          · split at h
            · simp only [Bool.and_eq_true] at h; rw [empty_size h.2.2]; omega
            · split at h
              · simp only [Bool.and_eq_true] at h; rw [empty_size h.2.2.1]; omega
              · cases h
theorem dec_small {n : Nat} (h : n < 100) : (Lib.decDigits n).length ≤ 2 := by
  rw [Lib.decDigits]
  split
  · simp
  · rw [Lib.decDigits, dif_pos (by omega)]
    simp
theorem dec_dl {n : Nat} (h : n < 100) : (⟨(Lib.decDigits n).toArray⟩ : ByteArray).size ≤ 100 := by
  have := dec_small h
  simp [ByteArray.size]; omega
theorem txt_tail (ts : List Ty) : (if ts.isEmpty then [] else 60 :: (txtSep true ts ++ [62])) = (if ts = [] then [] else [60] ++ sepText txtT true ts ++ [62] : List UInt8) := by
  cases ts with
  | nil => rfl
  | cons t l => simp [sep_txt]
theorem kind_cases {v : Bool} {k : Int} {s : ByteArray} {n : Int} {l : List Ty} (h : nodeK v k s n l = true) (h8 : k ≠ 8) (h10 : k ≠ 10) : k = 1 ∨ k = 2 ∨ k = 3 ∨ k = 4 ∨ k = 5 ∨ k = 11 ∨ k = 6 ∨ k = 7 ∨ k = 9 ∨ k = 12 := by
  apply Classical.byContradiction
  intro hn
  simp only [not_or] at hn
  unfold nodeK at h
  simp [hn, h8, h10] at h
theorem typ_open : ∀ t : Ty, t.all (nodeB true) = true → TypC txtT t := Ty.ind fun k s n ts ih ha => by
  simp only [Ty.all, Bool.and_eq_true] at ha
  have hch : ∀ u, u ∈ ts → TypC txtT u := fun u hu => ih u hu (alls_mem ha.2 u hu)
  have hnd := ha.1
  simp only [nodeB, Bool.and_eq_true, Bool.or_eq_true, decide_eq_true_eq] at hnd
  obtain ⟨hn, hK⟩ := hnd
  have hsz : s.size ≤ 1000000000 := by have := node_size hK; omega
  by_cases h8 : k = 8
  · subst h8
    obtain rfl : n = 0 := hn.resolve_left (by decide)
    match ts, hK, hch with
    | [u], _, hch => exact typ_assoc s u hsz (hch u (by simp))
    | [], hK, _ => simp [nodeK] at hK
    | _ :: _ :: _, hK, _ => simp [nodeK] at hK
  by_cases h10 : k = 10
  · subst h10
    obtain rfl : n = 0 := hn.resolve_left (by decide)
    rcases List.eq_nil_or_concat ts with rfl | ⟨us, v, rfl⟩
    · simp [nodeK] at hK
    · rw [List.concat_eq_append] at hch ⊢
      exact typ_fn s us v hsz ⟨fun u hu => hch u (by simp [hu]), hch v (by simp)⟩
  obtain ⟨m, rfl, hm⟩ : ∃ m : Nat, n = (m : Int) ∧ m < 100 := by
    rcases hn with rfl | rfl
    · simp [nodeK] at hK
      exact ⟨n.toNat, by omega, by omega⟩
    · exact ⟨0, rfl, by omega⟩
  have hw : ∀ (i : Nat), wordT k s (m : Int) = (wordOf s ⟨(Lib.decDigits m).toArray⟩ i).data.toList → txtT (.node k s (m : Int) ts) = (wordOf s ⟨(Lib.decDigits m).toArray⟩ i).data.toList ++ if ts = [] then [] else [60] ++ sepText txtT true ts ++ [62] := fun i hi => by
    simp only [txtT]
    rw [if_neg h8, if_neg h10, txt_tail, hi]
  rcases kind_cases hK h8 h10 with rfl | rfl | rfl | rfl | rfl | rfl | rfl | rfl | rfl | rfl
  · exact typ_simple txtT 1 s m ts 1 (by decide) rfl hm (dec_dl hm) hsz hch (hw 1 (by simp [wordT, wordOf, valOf, cInt]))
  · exact typ_simple txtT 2 s m ts 2 (by decide) rfl hm (dec_dl hm) hsz hch (hw 2 (by simp [wordT, wordOf, valOf, cBool]))
  · exact typ_simple txtT 3 s m ts 3 (by decide) rfl hm (dec_dl hm) hsz hch (hw 3 (by simp [wordT, wordOf, valOf, cText]))
  · exact typ_simple txtT 4 s m ts 4 (by decide) rfl hm (dec_dl hm) hsz hch (hw 4 (by simp [wordT, wordOf, valOf, cUnit]))
  · exact typ_simple txtT 5 s m ts 5 (by decide) rfl hm (dec_dl hm) hsz hch (hw 5 (by simp [wordT, wordOf, valOf, cArr]))
  · exact typ_simple txtT 11 s m ts 6 (by decide) rfl hm (dec_dl hm) hsz hch (hw 6 (by simp [wordT, wordOf, valOf, cWeak]))
  · exact typ_simple txtT 6 s m ts 9 (by decide) rfl hm (dec_dl hm) hsz hch (hw 9 (by simp [wordT, wordOf, valOf]))
  · exact typ_simple txtT 7 s m ts 13 (by decide) rfl hm (dec_dl hm) hsz hch (hw 13 (by simp [wordT, wordOf, valOf]))
  · exact typ_simple txtT 9 s m ts 17 (by decide) rfl hm (dec_dl hm) hsz hch (hw 17 (by simp [wordT, wordOf, valOf]))
  · exact typ_simple txtT 12 s m ts 22 (by decide) rfl hm (dec_dl hm) hsz hch (hw 22 (by simp [wordT, wordOf, valOf]))
theorem sep_lenB : ∀ (l : List Ty) (f : Bool), (∀ t, t ∈ l → (txtT t).length + 2 ≤ 40 * t.nodes) → (txtSep f l).length ≤ 40 * nodesL l
  | [], f, _ => by simp [txtSep]
  | t :: l, f, h => by
    have h1 := h t (by simp)
    have h2 := sep_lenB l false fun u hu => h u (by simp [hu])
    simp only [txtSep, nodesL, List.length_append]
    have h3 : (if f = true then [] else [44, 32] : List UInt8).length ≤ 2 := by cases f <;> simp
    omega
theorem word_lenB {k : Int} {s : ByteArray} {n : Int} {l : List Ty} (h : nodeK true k s n l = true) (h8 : k ≠ 8) (h10 : k ≠ 10) : (wordT k s n).length ≤ 28 := by
  have hs := node_size h
  have hl : s.data.toList.length = s.size := rfl
  rcases kind_cases h h8 h10 with rfl | rfl | rfl | rfl | rfl | rfl | rfl | rfl | rfl | rfl
  · simp [wordT]
  · simp [wordT]
  · simp [wordT]
  · simp [wordT]
  · simp [wordT]
  · simp [wordT]
  · simp only [wordT]; simp; omega
  · simp only [wordT]; simp; omega
  · simp only [wordT]; simp; omega
  · simp [nodeK] at h
    have := dec_small (show n.toNat < 100 by omega)
    simp [wordT]; omega
theorem txt_lenB : ∀ t : Ty, t.all (nodeB true) = true → (txtT t).length + 2 ≤ 40 * t.nodes := Ty.ind fun k s n ts ih ha => by
  simp only [Ty.all, Bool.and_eq_true] at ha
  have hch : ∀ u, u ∈ ts → (txtT u).length + 2 ≤ 40 * u.nodes := fun u hu => ih u hu (alls_mem ha.2 u hu)
  have hnd := ha.1
  simp only [nodeB, Bool.and_eq_true] at hnd
  have hsz := node_size hnd.2
  have hl : s.data.toList.length = s.size := rfl
  have hsep := fun f => sep_lenB ts f hch
  simp only [txtT, Ty.nodes]
  split
  · simp only [List.length_append, List.length_cons]
    have := hsep true; omega
  · split
    · rename_i h8 h10
      rcases List.eq_nil_or_concat ts with rfl | ⟨us, v, rfl⟩
      · simp [txtFn, nodesL]
      · rw [List.concat_eq_append] at hch ⊢
        have h1 := sep_lenB us true fun u hu => hch u (by simp [hu])
        have h2 := hch v (by simp)
        have h3 : nodesL (us ++ [v]) = nodesL us + v.nodes := by
          clear h1 hch ih ha hsep hnd
          induction us with
          | nil => simp [nodesL]
          | cons a l ih => simp only [List.cons_append, nodesL, ih]; omega
        rw [txtFn_eq, h3]
        simp only [List.length_cons, List.length_append, List.length_nil]
        omega
    · rename_i h8 h10
      have hw := word_lenB hnd.2 h8 h10
      rw [List.length_append]
      have := hsep true
      split
      · simp; omega
      · simp only [List.length_cons, List.length_append, List.length_nil]; omega
theorem Open_full (t : Ty) (w : World) (D : Nat → Prop) (row : Array Value) (h : TyAt w D t row) : Calls Tryd.prog 59 #[.agg row] w fun e w' => e = .returned (.bool (validB true t)) ∧ Below w.heap.size w w' := by
  have := Open_any (nodeB true) (fun _ => True) (fun u _ => shaped_any true u) (fun _ _ _ _ _ _ _ => trivial) t trivial w D row h
  rwa [openB_law] at this
/-- What Format hands back. -/
def fmtV (t : Ty) : Value := if validB true t = true then .tuple #[.string ⟨(txtT t).toArray⟩, .int .i64 0] else .tuple #[.string ⟨#[]⟩, .int .i64 30]
theorem valid_all {v : Bool} {t : Ty} (h : validB v t = true) : t.nodes ≤ 40 ∧ t.all (nodeB v) = true := by
  unfold validB at h
  rw [Bool.and_eq_true] at h
  exact ⟨of_decide_eq_true h.1, h.2⟩
set_option maxHeartbeats 2000000 in
set_option maxRecDepth 100000 in
theorem Format_any (t : Ty) (w : World) (D : Nat → Prop) (row : Array Value) (h : TyAt w D t row) : Calls Tryd.prog 33 #[.agg row] w fun e w' => e = .returned (fmtV t) ∧ Below w.heap.size w w' := by
  unfold fmtV
  by_cases hv : validB true t = true
  · rw [if_pos hv]
    obtain ⟨h1, h2⟩ := valid_all hv
    refine Format_ok txtT t w D row h (fun w' D' h' => ?_) (typ_open t h2) (by have := txt_lenB t h2; omega)
    have := Open_full t w' D' row h'
    rwa [hv] at this
  · rw [if_neg hv]
    have HC := Lib.hid fun (w' : World) (h' : TyAt w' D t row) => Open_full t w' D row h'
    rw [show validB true t = false from by simpa using hv] at HC
    obtain ⟨k, s, n, A, l, c, ts, he, rfl, -⟩ := h.parts
    have HT := Lib.hid h
    clear h he hv
    have hb := Below.refl w.heap.size w
    go_enter Tryd.func33, Tryd.ntmps33
    go_upto_region 0 with (fail)
    apply wp_region_lit
    (with_reducible refine wl_box rfl ?_); intro W p hbn hlp hp; replace hb := hb.trans (hbn.mono hb.size); clear hbn; simp only [put_lit, List.set_cons_zero, List.set_cons_succ]
    (with_reducible refine wl_k ?_ ?_); exact rfl; intro K hK; go_simp; refine hK _ ?_; clear hK K
    (with_reducible refine wl_k ?_ ?_); exact rfl; intro K hK; go_simp; refine hK _ ?_; clear hK K
    have HC2 := Lib.hid (HC.out W (HT.out.old hb))
    go_upto_region 1 with (fail)
    apply wp_region_lit
    (first | ((with_reducible apply wl_oneG); exact rfl; exact rfl; first | exact f0 (by with_reducible assumption) | exact f1 (by with_reducible assumption) | exact f2 (by with_reducible assumption) | exact f3 (by with_reducible assumption) | with_reducible assumption | exact g22 (by with_reducible assumption) | exact g25 (by with_reducible assumption)) | ((with_reducible apply wl_rowG); exact rfl; exact rfl; first | with_reducible assumption | exact RowK.now (by with_reducible assumption) | exact f4 (by with_reducible assumption)))
    (with_reducible refine wl_ck ?_ ?_); exact rfl; intro K hK; go_simp; refine ⟨_, _, ⟨rfl, rfl⟩, hK _ _ ⟨_, HC2.out, ?_⟩⟩; clear hK K; rintro e w6 ⟨rfl, hb6⟩; refine ⟨_, rfl, ?_⟩; simp only [put_lit, List.set_cons_zero, List.set_cons_succ]
    (with_reducible refine wl_k ?_ ?_); exact rfl; intro K hK; go_simp; refine hK _ ?_; clear hK K
    replace hp := below_look hb6 hp; replace hb := hb.trans (hb6.mono hb.size); clear hb6
    clear HC HC2 hp
    go_wp2_with fail
    go_ret2
    exact ⟨rfl, hb⟩
end Go.Proofs.YtokmaehefenpmaaDoor
namespace Go.Proofs.YtokmaehefenpmaaDoor
open Go.RowKit Go.Proofs.YtokmaehefenpmaaDoor.Nm
set_option linter.unusedSimpArgs false
/-- The trees of what is known lie in row g1, the marks in row g2; the trees' own blocks are others. -/
structure MSt (w : World) (g1 g2 : Nat) (st : List (Option Ty)) : Prop where
  ne : g1 ≠ g2
  tys : ∃ cs, w.heap[g1]? = some (.cells cs 24 (0, 0)) ∧ cs.size = st.length * 4 ∧ ∀ (i : Nat) (o : Option Ty), st[i]? = some o → ∃ row, cs.extract (i * 4) (i * 4 + 4) = row ∧ TyAt w (fun b => b ≠ g1 ∧ b ≠ g2) (o.getD zeroTy) row
  kn : ∃ bs, w.heap[g2]? = some (.cells bs 4 (0, 0)) ∧ bs.size = st.length ∧ ∀ (i : Nat) (o : Option Ty), st[i]? = some o → bs[i]? = some (.bool o.isSome)
theorem MSt.lt {w : World} {g1 g2 : Nat} {st : List (Option Ty)} (h : MSt w g1 g2 st) : g1 < w.heap.size ∧ g2 < w.heap.size := by
  obtain ⟨cs, h1, -⟩ := h.tys
  obtain ⟨bs, h2, -⟩ := h.kn
  exact ⟨heap_lt h1, heap_lt h2⟩
theorem MSt.old {w w' : World} {g1 g2 : Nat} {st : List (Option Ty)} (h : MSt w g1 g2 st) (hb : Below w.heap.size w w') : MSt w' g1 g2 st := by
  obtain ⟨h0, ⟨cs, h1, h2, h3⟩, ⟨bs, k1, k2, k3⟩⟩ := h
  exact ⟨h0, ⟨cs, by rw [hb.block _ (heap_lt h1)]; exact h1, h2, fun i o ho => by
    obtain ⟨row, e, ht⟩ := h3 i o ho
    exact ⟨row, e, ht.old hb⟩⟩, ⟨bs, by rw [hb.block _ (heap_lt k1)]; exact k1, k2, k3⟩⟩
/-- Read as a row of trees. -/
theorem MSt.at {w : World} {g1 g2 : Nat} {st : List (Option Ty)} (h : MSt w g1 g2 st) (hm : st.length ≤ maxLen) : TysAt w Any (tysOf st) (some ⟨g1, 0, none⟩) st.length st.length := by
  obtain ⟨-, ⟨cs, h1, h2, h3⟩, -⟩ := h
  refine ⟨by simp [tysOf], Nat.le_refl _, hm, fun i => cs.extract (i * 4) (i * 4 + 4), fun i t ht => ?_, fun i t ht => ?_⟩
  · exact ⟨g1, 0, cs, 24, (0, 0), rfl, trivial, h1, by rw [Nat.zero_add]⟩
  · simp only [tysOf, List.getElem?_map, Option.map_eq_some_iff] at ht
    obtain ⟨o, ho, rfl⟩ := ht
    obtain ⟨row, e, hta⟩ := h3 i o ho
    show TyAt w Any _ (cs.extract (i * 4) (i * 4 + 4))
    rw [e]
    exact hta.weak fun _ _ => trivial
theorem MSt.tree {w : World} {g1 g2 : Nat} {st : List (Option Ty)} (h : MSt w g1 g2 st) (hm : st.length ≤ maxLen) {i : Nat} {u : Ty} (ho : st[i]? = some (some u)) : ∃ row, RowK w ⟨g1, i * 4, none⟩ row ∧ TyAt w Any u row := by
  have := (h.at hm).rowK (i := i) (t := u) (tysOf_get ho)
  simpa using this
/-- The cells of a row with one tree put in. -/
def put4 (cs : Array Value) (i : Nat) (row : Array Value) : Array Value := (cs.toList.take (i * 4) ++ row.toList ++ cs.toList.drop (i * 4 + 4)).toArray
theorem put4_size {cs row : Array Value} {i : Nat} (hr : row.size = 4) (h : i * 4 + 4 ≤ cs.size) : (put4 cs i row).size = cs.size := by
  simp [put4, hr]; omega
theorem put4_same {cs row : Array Value} {i : Nat} (hr : row.size = 4) (h : i * 4 + 4 ≤ cs.size) : (put4 cs i row).extract (i * 4) (i * 4 + 4) = row := by
  apply Array.toList_inj.1
  have h1 : (cs.toList.take (i * 4)).length = i * 4 := by simp; omega
  simp only [put4, Array.toList_extract, List.extract_eq_take_drop, List.append_assoc]
  rw [List.drop_append_of_le_length (by omega), List.drop_of_length_le (by omega), List.nil_append, show i * 4 + 4 - i * 4 = row.toList.length by simp [hr], List.take_left']
  rfl
theorem put4_other {cs row : Array Value} {i j : Nat} (hr : row.size = 4) (h : i * 4 + 4 ≤ cs.size) (hj : j ≠ i) : (put4 cs i row).extract (j * 4) (j * 4 + 4) = cs.extract (j * 4) (j * 4 + 4) := by
  have h1 : (cs.toList.take (i * 4)).length = i * 4 := by simp; omega
  have hr2 : row.toList.length = 4 := by simp [hr]
  have key : ∀ m, (m < i * 4 ∨ i * 4 + 4 ≤ m) → (put4 cs i row)[m]? = cs[m]? := fun m hm => by
    rw [← Array.getElem?_toList, ← Array.getElem?_toList]
    simp only [put4, List.append_assoc]
    rcases hm with hm | hm
    · rw [List.getElem?_append_left (by omega), List.getElem?_take_of_lt hm]
    · rw [List.getElem?_append_right (by omega), List.getElem?_append_right (by omega), List.getElem?_drop]
      congr 1; omega
  apply Array.ext_getElem?
  intro m
  rw [Array.getElem?_extract, Array.getElem?_extract, put4_size hr h]
  split
  · exact key _ (by rcases Nat.lt_or_gt_of_ne hj with e | e <;> omega)
  · rfl
/-- What stands beside a match's two rows. -/
structure Fr (g1 g2 : Nat) (w w' : World) : Prop where
  keep : ∀ b, b < w.heap.size → b ≠ g1 → b ≠ g2 → w'.heap[b]? = w.heap[b]?
  bel : ∀ B' w0, B' ≤ g1 → B' ≤ g2 → B' ≤ w.heap.size → Below B' w0 w → Below B' w0 w'
theorem Fr.size {g1 g2 : Nat} {w w' : World} (h : Fr g1 g2 w w') : w.heap.size ≤ w'.heap.size := (h.bel 0 w (Nat.zero_le _) (Nat.zero_le _) (Nat.zero_le _) (Below.refl _ _)).size
theorem Fr.trans {g1 g2 : Nat} {w w1 w2 : World} (h : Fr g1 g2 w w1) (g : Fr g1 g2 w1 w2) : Fr g1 g2 w w2 where
  keep b hb h1 h2 := by
    have := h.size
    rw [g.keep b (by omega) h1 h2, h.keep b hb h1 h2]
  bel B' w0 h1 h2 h3 h4 := by
    have := h.size
    exact g.bel B' w0 h1 h2 (by omega) (h.bel B' w0 h1 h2 h3 h4)
theorem Fr.of {g1 g2 : Nat} {w w' : World} (hb : Below w.heap.size w w') : Fr g1 g2 w w' := ⟨fun b h _ _ => hb.block b h, fun _ _ _ _ h3 h4 => h4.trans (hb.mono h3)⟩
section
variable {ops : Array Oper} {rest : List Oper} {ty' : TypeId} {x y : Operand} {pos : String} {after : Array Edge} {a : Act} {w : World} {Q : Exit → Act → World → Prop}
end
/-- A tree is known from now on. -/
theorem MSt.put {w : World} {g1 g2 : Nat} {st : List (Option Ty)} (h : MSt w g1 g2 st) {i : Nat} (hi : i < st.length) {t : Ty} {row : Array Value} (ht : TyAt w (fun b => b ≠ g1 ∧ b ≠ g2) t row) :
    ∃ cs, w.heap[g1]? = some (.cells cs 24 (0, 0)) ∧ i * 4 + 4 ≤ cs.size ∧ ((w.setRow g1 (put4 cs i row)).cell? ⟨g2, i, none⟩).isSome = true ∧ (w.setRow g1 (put4 cs i row)).frozen? ⟨g2, i, none⟩ = false ∧ MSt ((w.setRow g1 (put4 cs i row)).setCell ⟨g2, i, none⟩ (.bool true)) g1 g2 (st.set i (some t)) ∧ Fr g1 g2 w ((w.setRow g1 (put4 cs i row)).setCell ⟨g2, i, none⟩ (.bool true)) := by
  obtain ⟨h0, ⟨cs, h1, h2, h3⟩, ⟨bs, k1, k2, k3⟩⟩ := h
  have hr : row.size = 4 := ht.size
  have hle : i * 4 + 4 ≤ cs.size := by omega
  have hk1 : (w.setRow g1 (put4 cs i row)).heap[g2]? = some (.cells bs 4 (0, 0)) := by rw [setRow_other w g1 g2 _ (fun e => h0 e.symm)]; exact k1
  have hh1 : ((w.setRow g1 (put4 cs i row)).setCell ⟨g2, i, none⟩ (.bool true)).heap[g1]? = some (.cells (put4 cs i row) 24 (0, 0)) := by rw [heap_setCell_other _ _ _ _ h0]; exact hr_new h1
  have hoth : ∀ b, b ≠ g1 → b ≠ g2 → ((w.setRow g1 (put4 cs i row)).setCell ⟨g2, i, none⟩ (.bool true)).heap[b]? = w.heap[b]? := fun b e1 e2 => by rw [heap_setCell_other _ _ _ _ e2, setRow_other w g1 b _ e1]
  refine ⟨cs, h1, hle, by rw [cell_of_row _ _ _ _ _ _ hk1, Array.getElem?_eq_getElem (by omega)]; rfl, by unfold World.frozen?; rw [hk1]; rfl, ⟨h0, ⟨_, hh1, by rw [put4_size hr hle, List.length_set]; exact h2, fun j o hj => ?_⟩, ⟨_, hs_new hk1, by simp [k2], fun j o hj => ?_⟩⟩, ⟨fun b _ e1 e2 => hoth b e1 e2, fun B' w0 e1 e2 e3 e4 => (below_setRow e4 e1 _).setCell e2 _⟩⟩
  · by_cases e : j = i
    · subst e
      rw [List.getElem?_set_self hi] at hj
      cases hj
      exact ⟨_, put4_same hr hle, ht.mono (fun _ h => h) fun b hb => hoth b hb.1 hb.2⟩
    · rw [List.getElem?_set_ne (fun e2 => e e2.symm)] at hj
      obtain ⟨r, e1, e2⟩ := h3 j o hj
      exact ⟨r, by rw [put4_other hr hle e]; exact e1, e2.mono (fun _ h => h) fun b hb => hoth b hb.1 hb.2⟩
  · by_cases e : j = i
    · subst e
      rw [List.getElem?_set_self hi] at hj
      cases hj
      rw [Array.getElem?_setIfInBounds_self_of_lt (by omega)]
      rfl
    · rw [List.getElem?_set_ne (fun e2 => e e2.symm)] at hj
      rw [Array.getElem?_setIfInBounds_ne (fun e2 => e e2.symm)]
      exact k3 j o hj
end Go.Proofs.YtokmaehefenpmaaDoor
namespace Go.Proofs
open Go.Shelf
def Tryd.lays103_ren : Go.Shelf.Ren := ⟨fun | 103 => 109 | 210 => 128 | 206 => 153 | n => n, fun | 9 => 9 | 4 => 4 | 24 => 124 | 3 => 3 | n => n, fun | n => n⟩
theorem Tryd.lays103 : Go.Proofs.Lays.n103 Tryd.prog Tryd.lays103_ren := {
  mixed := by kernel_rfl
  f103 := Tryd.func109.trans (congrArg some (by kernel_rfl))
  f206 := Tryd.func153.trans (congrArg some (by kernel_rfl))
  f210 := Tryd.func128.trans (congrArg some (by kernel_rfl))
  t3 := Tryd.underlying3
  a3 := Tryd.isAgg3
  z3 := Tryd.sizeOf3
  v3 := Tryd.zeroValue3
  t4 := Tryd.underlying4
  a4 := Tryd.isAgg4
  z4 := Tryd.sizeOf4
  v4 := Tryd.zeroValue4
  t9 := Tryd.underlying9
  a9 := Tryd.isAgg9
  z9 := Tryd.sizeOf9
  v9 := Tryd.zeroValue9
  t24 := Tryd.underlying124
  a24 := Tryd.isAgg124
  z24 := Tryd.sizeOf124
  v24 := Tryd.zeroValue124 }
open Go.RowKit in
theorem Tryd.strings_CutPrefix (s p : ByteArray) (w : World) :
    Calls Tryd.prog 109 #[.string s, .string p] w fun e w' => e = .returned (.tuple #[.string ⟨(Lib.trimPrefix s.data.toList p.data.toList).toArray⟩, .bool (Lib.hasPrefix s.data.toList p.data.toList)]) ∧ w' = w := Any.strings_CutPrefix Tryd.lays103 s p w
def Tryd.laysC172_ren : Go.Shelf.Ren := ⟨fun | 172 => 89 | 244 => 111 | 245 => 112 | 247 => 129 | 279 => 130 | 280 => 131 | 281 => 132 | 282 => 133 | 287 => 154 | 316 => 155 | 171 => 81 | 205 => 156 | 321 => 176 | 322 => 177 | 243 => 107 | 246 => 126 | 283 => 149 | 284 => 150 | 285 => 151 | 286 => 152 | 129 => 145 | 317 => 172 | 318 => 173 | 319 => 174 | 320 => 175 | 337 => 182 | 338 => 183 | n => n, fun | 9 => 9 | 3 => 3 | 75 => 107 | 76 => 108 | 4 => 4 | 5 => 5 | 167 => 140 | 37 => 57 | 0 => 0 | 85 => 141 | 2 => 2 | 168 => 143 | 53 => 157 | 175 => 164 | 46 => 131 | 210 => 168 | 127 => 110 | 145 => 188 | 143 => 186 | 21 => 21 | 171 => 160 | 173 => 162 | 212 => 183 | 51 => 155 | 20 => 20 | 213 => 184 | 232 => 195 | 233 => 196 | 80 => 78 | n => n, fun | 15 => 1 | 16 => 2 | 17 => 3 | 18 => 4 | 19 => 5 | n => n⟩
theorem Tryd.laysC172 : Go.Proofs.LaysC.n172 Tryd.prog Tryd.laysC172_ren := {
  mixed := by kernel_rfl
  f129 := Tryd.func145.trans (congrArg some (by kernel_rfl))
  f171 := Tryd.func81.trans (congrArg some (by kernel_rfl))
  f172 := Tryd.func89.trans (congrArg some (by kernel_rfl))
  f205 := Tryd.func156.trans (congrArg some (by kernel_rfl))
  f243 := Tryd.func107.trans (congrArg some (by kernel_rfl))
  f244 := Tryd.func111.trans (congrArg some (by kernel_rfl))
  f245 := Tryd.func112.trans (congrArg some (by kernel_rfl))
  f246 := Tryd.func126.trans (congrArg some (by kernel_rfl))
  f247 := Tryd.func129.trans (congrArg some (by kernel_rfl))
  f279 := Tryd.func130.trans (congrArg some (by kernel_rfl))
  f280 := Tryd.func131.trans (congrArg some (by kernel_rfl))
  f281 := Tryd.func132.trans (congrArg some (by kernel_rfl))
  f282 := Tryd.func133.trans (congrArg some (by kernel_rfl))
  f283 := Tryd.func149.trans (congrArg some (by kernel_rfl))
  f284 := Tryd.func150.trans (congrArg some (by kernel_rfl))
  f285 := Tryd.func151.trans (congrArg some (by kernel_rfl))
  f286 := Tryd.func152.trans (congrArg some (by kernel_rfl))
  f287 := Tryd.func154.trans (congrArg some (by kernel_rfl))
  f316 := Tryd.func155.trans (congrArg some (by kernel_rfl))
  f317 := Tryd.func172.trans (congrArg some (by kernel_rfl))
  f318 := Tryd.func173.trans (congrArg some (by kernel_rfl))
  f319 := Tryd.func174.trans (congrArg some (by kernel_rfl))
  f320 := Tryd.func175.trans (congrArg some (by kernel_rfl))
  f321 := Tryd.func176.trans (congrArg some (by kernel_rfl))
  f322 := Tryd.func177.trans (congrArg some (by kernel_rfl))
  f337 := Tryd.func182.trans (congrArg some (by kernel_rfl))
  f338 := Tryd.func183.trans (congrArg some (by kernel_rfl))
  t0 := Tryd.underlying0
  a0 := Tryd.isAgg0
  z0 := Tryd.sizeOf0
  v0 := Tryd.zeroValue0
  t2 := Tryd.underlying2
  a2 := Tryd.isAgg2
  z2 := Tryd.sizeOf2
  v2 := Tryd.zeroValue2
  t3 := Tryd.underlying3
  a3 := Tryd.isAgg3
  z3 := Tryd.sizeOf3
  v3 := Tryd.zeroValue3
  t4 := Tryd.underlying4
  a4 := Tryd.isAgg4
  z4 := Tryd.sizeOf4
  v4 := Tryd.zeroValue4
  t5 := Tryd.underlying5
  a5 := Tryd.isAgg5
  z5 := Tryd.sizeOf5
  v5 := Tryd.zeroValue5
  t9 := Tryd.underlying9
  a9 := Tryd.isAgg9
  z9 := Tryd.sizeOf9
  v9 := Tryd.zeroValue9
  t20 := Tryd.underlying20
  a20 := Tryd.isAgg20
  z20 := Tryd.sizeOf20
  v20 := Tryd.zeroValue20
  t21 := Tryd.underlying21
  a21 := Tryd.isAgg21
  z21 := Tryd.sizeOf21
  v21 := Tryd.zeroValue21
  t37 := Tryd.underlying57
  a37 := Tryd.isAgg57
  z37 := Tryd.sizeOf57
  v37 := Tryd.zeroValue57
  t46 := Tryd.underlying131
  a46 := Tryd.isAgg131
  z46 := Tryd.sizeOf131
  v46 := Tryd.zeroValue131
  t51 := Tryd.underlying155
  a51 := Tryd.isAgg155
  z51 := Tryd.sizeOf155
  v51 := Tryd.zeroValue155
  t53 := Tryd.underlying157
  a53 := Tryd.isAgg157
  z53 := Tryd.sizeOf157
  v53 := Tryd.zeroValue157
  t75 := Tryd.underlying107
  a75 := Tryd.isAgg107
  z75 := Tryd.sizeOf107
  v75 := Tryd.zeroValue107
  t76 := Tryd.underlying108
  a76 := Tryd.isAgg108
  z76 := Tryd.sizeOf108
  v76 := Tryd.zeroValue108
  t85 := Tryd.underlying141
  a85 := Tryd.isAgg141
  z85 := Tryd.sizeOf141
  v85 := Tryd.zeroValue141
  t127 := Tryd.underlying110
  a127 := Tryd.isAgg110
  z127 := Tryd.sizeOf110
  v127 := Tryd.zeroValue110
  t143 := Tryd.underlying186
  a143 := Tryd.isAgg186
  z143 := Tryd.sizeOf186
  v143 := Tryd.zeroValue186
  t145 := Tryd.underlying188
  a145 := Tryd.isAgg188
  z145 := Tryd.sizeOf188
  v145 := Tryd.zeroValue188
  t167 := Tryd.underlying140
  a167 := Tryd.isAgg140
  z167 := Tryd.sizeOf140
  v167 := Tryd.zeroValue140
  t168 := Tryd.underlying143
  a168 := Tryd.isAgg143
  z168 := Tryd.sizeOf143
  v168 := Tryd.zeroValue143
  t171 := Tryd.underlying160
  a171 := Tryd.isAgg160
  z171 := Tryd.sizeOf160
  v171 := Tryd.zeroValue160
  t173 := Tryd.underlying162
  a173 := Tryd.isAgg162
  z173 := Tryd.sizeOf162
  v173 := Tryd.zeroValue162
  t175 := Tryd.underlying164
  a175 := Tryd.isAgg164
  z175 := Tryd.sizeOf164
  v175 := Tryd.zeroValue164
  t210 := Tryd.underlying168
  a210 := Tryd.isAgg168
  z210 := Tryd.sizeOf168
  v210 := Tryd.zeroValue168
  t212 := Tryd.underlying183
  a212 := Tryd.isAgg183
  z212 := Tryd.sizeOf183
  v212 := Tryd.zeroValue183
  t213 := Tryd.underlying184
  a213 := Tryd.isAgg184
  z213 := Tryd.sizeOf184
  t232 := Tryd.underlying195
  a232 := Tryd.isAgg195
  z232 := Tryd.sizeOf195
  v232 := Tryd.zeroValue195
  t233 := Tryd.underlying196
  a233 := Tryd.isAgg196
  z233 := Tryd.sizeOf196
  v233 := Tryd.zeroValue196
  g15 := by kernel_rfl
  g16 := by kernel_rfl
  g17 := by kernel_rfl
  g18 := by kernel_rfl
  g19 := by kernel_rfl
  t80 := Tryd.underlying78
  a80 := Tryd.isAgg78
  z80 := Tryd.sizeOf78
  v80 := Tryd.zeroValue78
  i0 := by kernel_rfl
  i2 := by kernel_rfl
  i3 := by kernel_rfl
  i4 := by kernel_rfl
  i5 := by kernel_rfl
  i9 := by kernel_rfl
  i20 := by kernel_rfl
  i21 := by kernel_rfl
  i37 := by kernel_rfl
  i46 := by kernel_rfl
  i51 := by kernel_rfl
  i53 := by kernel_rfl
  i75 := by kernel_rfl
  i76 := by kernel_rfl
  i80 := by kernel_rfl
  i85 := by kernel_rfl
  i127 := by kernel_rfl
  i143 := by kernel_rfl
  i145 := by kernel_rfl
  i167 := by kernel_rfl
  i168 := by kernel_rfl
  i171 := by kernel_rfl
  i173 := by kernel_rfl
  i175 := by kernel_rfl
  i210 := by kernel_rfl
  i212 := by kernel_rfl
  i232 := by kernel_rfl
  i233 := by kernel_rfl
  m15 := by kernel_rfl
  m16 := by kernel_rfl
  m17 := by kernel_rfl
  m18 := by kernel_rfl
  m19 := by kernel_rfl
  c0 := by kernel_rfl
  c2 := by kernel_rfl
  c3 := by kernel_rfl
  c4 := by kernel_rfl
  c5 := by kernel_rfl
  c9 := by kernel_rfl
  c20 := by kernel_rfl
  c21 := by kernel_rfl
  c37 := by kernel_rfl
  c46 := by kernel_rfl
  c51 := by kernel_rfl
  c53 := by kernel_rfl
  c75 := by kernel_rfl
  c76 := by kernel_rfl
  c80 := by kernel_rfl
  c85 := by kernel_rfl
  c127 := by kernel_rfl
  c143 := by kernel_rfl
  c145 := by kernel_rfl
  c167 := by kernel_rfl
  c168 := by kernel_rfl
  c171 := by kernel_rfl
  c173 := by kernel_rfl
  c175 := by kernel_rfl
  c210 := by kernel_rfl
  c212 := by kernel_rfl
  c213 := by kernel_rfl
  c232 := by kernel_rfl
  c233 := by kernel_rfl }
open Go.RowKit in
theorem Tryd.strconv_Atoi_ok (s : ByteArray) (hmax : s.size ≤ 9223372036854775806) (v : Int) (h : Lib.atoiAll s.data.toList = .ok v) (w : World) :
    Calls Tryd.prog 89 #[.string s] w fun e w' => e = .returned (.tuple #[.int .i64 v, .nilIface]) ∧ (w' = w ∨ ∃ t, w' = Lib.bytesWorld w 5 t) := Any.strconv_Atoi_ok Tryd.laysC172 s hmax v h w
open Go.RowKit in
theorem Tryd.strconv_Atoi_syntax (s : ByteArray) (hlim : s.size ≤ 281474976710656) (h : Lib.atoiAll s.data.toList = Lib.NumEnd.syntax) (ev : Value) (w : World) (hv : w.cell? ⟨1, 0, none⟩ = some ev) (hev : ev = .nilIface ∨ ∃ te pe, ev = .iface te pe) :
    Calls Tryd.prog 89 #[.string s] w fun e w' => ∃ N, e = .returned (.tuple #[.int .i64 (0), .iface 143 (.pointer (some ⟨N, 0, none⟩))]) ∧ w.heap.size ≤ N ∧ w'.heap[N]? = some (.cells #[.string ⟨#[65, 116, 111, 105]⟩, .string s, ev] 168 (0, 0)) ∧ Below w.heap.size w w' := Any.strconv_Atoi_syntax Tryd.laysC172 s hlim h ev w hv hev
open Go.RowKit in
theorem Tryd.strconv_Atoi_range (s : ByteArray) (hlim : s.size ≤ 281474976710656) (h : Lib.atoiAll s.data.toList = .range) (ev : Value) (w : World) (hv : w.cell? ⟨2, 0, none⟩ = some ev) (hev : ev = .nilIface ∨ ∃ te pe, ev = .iface te pe) :
    Calls Tryd.prog 89 #[.string s] w fun e w' => ∃ N, e = .returned (.tuple #[.int .i64 (Lib.atoiSat s.data.toList), .iface 143 (.pointer (some ⟨N, 0, none⟩))]) ∧ w.heap.size ≤ N ∧ w'.heap[N]? = some (.cells #[.string ⟨#[65, 116, 111, 105]⟩, .string s, ev] 168 (0, 0)) ∧ Below w.heap.size w w' := Any.strconv_Atoi_range Tryd.laysC172 s hlim h ev w hv hev
end Go.Proofs
namespace Go.Proofs.YtokmaehefenpmaaDoor
open Go.RowKit Go.Proofs.YtokmaehefenpmaaDoor.Nm
set_option linter.unusedSimpArgs false
/-- A reader with the text that is left, and whether it has failed. -/
def Rs (w : World) (r : Nat) (l : List UInt8) (f : Bool) : Prop := w.heap[r]? = some (.cells #[.string (strOf l), .bool f] 82 (0, 0))
theorem Rs.lt {w : World} {r : Nat} {l : List UInt8} {f : Bool} (h : Rs w r l f) : r < w.heap.size := heap_lt h
theorem Rs.old {w w' : World} {r : Nat} {l : List UInt8} {f : Bool} (h : Rs w r l f) (hb : Below w.heap.size w w') : Rs w' r l f := below_look hb h
theorem r0 {w : World} {r : Nat} {l : List UInt8} {f : Bool} (h : Rs w r l f) : OneAt w 9 ⟨r, 0, none⟩ (.string (strOf l)) := one_of u9 rfl (by rw [cell_of_row _ _ _ _ _ _ h]; rfl)
theorem r1 {w : World} {r : Nat} {l : List UInt8} {f : Bool} (h : Rs w r l f) : OneAt w 4 ⟨r, 1, none⟩ (.bool f) := one_of u4 rfl (by rw [cell_of_row _ _ _ _ _ _ h]; rfl)
theorem info9c : (Tryd.prog.info? 9).map (·.size) = some 1 := by kernel_rfl
theorem info4c : (Tryd.prog.info? 4).map (·.size) = some 1 := by kernel_rfl
theorem Fr.one {r : Nat} {w w' : World} (hb : ∀ B w0, B ≤ r → Below B w0 w → Below B w0 w') (hk : ∀ g, g ≠ r → w'.heap[g]? = w.heap[g]?) : Fr r r w w' := ⟨fun b _ h _ => hk b h, fun B w0 h1 _ _ h4 => hb B w0 h1 h4⟩
theorem Fr.below {r : Nat} {w w1 w2 : World} (hb : Below w.heap.size w w1) (hr : w.heap.size ≤ r) (h : Fr r r w1 w2) : Below w.heap.size w w2 := h.bel _ _ hr hr hb.size hb
section
variable {ops : Array Oper} {rest : List Oper} {dst : Option Tmp} {ty ty' : TypeId} {x y : Operand} {pos : String} {after : Array Edge} {a : Act} {w : World} {Q : Exit → Act → World → Prop} {r : Nat} {l : List UInt8} {f : Bool}
theorem wl_putR0 {s' : ByteArray} {l' : List UInt8} (hs : s' = strOf l') (hx : a.eval x = .pointer (some ⟨r, 0, none⟩)) (hy : a.eval y = .string s') (hp : Rs w r l f)
    (h : ∀ W, Fr r r w W → Rs W r l' f → wpList Tryd.prog ops Q rest (a.put none undef) W) :
    wpList Tryd.prog ops Q (⟨none, .store 9 x y, ty', pos, after, none⟩ :: rest) a w := by
  subst hs
  refine wl_storeC rfl 9 x y rfl r 0 _ hx hy info9c rfl (by rw [cell_of_row _ _ _ _ _ _ hp]; rfl) (by unfold World.frozen?; rw [hp]; rfl) ?_
  exact h _ (Fr.one (fun B w0 hB hb => hb.setCell hB _) fun g hg => heap_setCell_other _ _ _ _ hg) (by unfold Rs; rw [hs_new hp]; rfl)
theorem wl_putR1 {f' : Bool} (hx : a.eval x = .pointer (some ⟨r, 1, none⟩)) (hy : a.eval y = .bool f') (hp : Rs w r l f)
    (h : ∀ W, Fr r r w W → Rs W r l f' → wpList Tryd.prog ops Q rest (a.put none undef) W) :
    wpList Tryd.prog ops Q (⟨none, .store 4 x y, ty', pos, after, none⟩ :: rest) a w := by
  refine wl_storeC rfl 4 x y rfl r 1 _ hx hy info4c rfl (by rw [cell_of_row _ _ _ _ _ _ hp]; rfl) (by unfold World.frozen?; rw [hp]; rfl) ?_
  exact h _ (Fr.one (fun B w0 hB hb => hb.setCell hB _) fun g hg => heap_setCell_other _ _ _ _ hg) (by unfold Rs; rw [hs_new hp]; rfl)
end
theorem take_lib (p s : List UInt8) : Lib.hasPrefix s p = (takeL p s).isSome := by
  unfold takeL Lib.hasPrefix
  cases h : p.isPrefixOf s <;> simp
theorem take_rest {p s s1 : List UInt8} (h : takeL p s = some s1) : Lib.trimPrefix s p = s1 := by
  have h2 := take_lib p s
  rw [h] at h2
  unfold takeL at h
  split at h
  · cases h
    unfold Lib.trimPrefix
    simp [h2]
  · cases h
set_option maxHeartbeats 2000000 in
set_option maxRecDepth 100000 in
theorem take_some (r : Nat) (p : ByteArray) (l l1 : List UInt8) (f : Bool) (w : World) (h : Rs w r l f) (ht : takeL p.data.toList l = some l1) :
    Calls Tryd.prog 86 #[.pointer (some ⟨r, 0, none⟩), .string p] w fun e w' => e = .returned (.bool true) ∧ Rs w' r l1 f ∧ Fr r r w w' := by
  have hC := Tryd.strings_CutPrefix (strOf l) p w
  rw [show (strOf l).data.toList = l by simp [strOf], take_lib, ht, take_rest ht] at hC
  have HC := Lib.hid hC
  clear hC ht
  go_enter Tryd.func86, Tryd.ntmps86
  go_upto_region 1 with (fail)
  apply wp_region_lit
  (with_reducible refine wl_k ?_ ?_); exact rfl; intro K hK; go_simp; refine hK _ ?_; clear hK K
  (with_reducible refine wl_k ?_ ?_); exact rfl; intro K hK; go_simp; refine hK _ ?_; clear hK K
  (with_reducible refine wl_k ?_ ?_); exact rfl; intro K hK; go_simp; refine hK _ ?_; clear hK K
  ((with_reducible apply wl_oneG); exact rfl; exact rfl; exact r0 h)
  (with_reducible refine wl_k ?_ ?_); exact rfl; intro K hK; go_simp; refine hK _ ?_; clear hK K
  (with_reducible refine wl_ck ?_ ?_); exact rfl; intro K hK; go_simp; refine ⟨_, _, ⟨rfl, rfl⟩, hK _ _ ⟨_, HC.out, ?_⟩⟩; clear hK K; rintro e w3 ⟨rfl, rfl⟩; refine ⟨_, rfl, ?_⟩; simp only [put_lit, List.set_cons_zero, List.set_cons_succ]
  (with_reducible refine wl_k ?_ ?_); exact rfl; intro K hK; go_simp; refine hK _ ?_; clear hK K
  (with_reducible refine wl_k ?_ ?_); exact rfl; intro K hK; go_simp; refine hK _ ?_; clear hK K
  (with_reducible refine wl_k ?_ ?_); exact rfl; intro K hK; go_simp; refine hK _ ?_; clear hK K
  (with_reducible refine wl_k ?_ ?_); exact rfl; intro K hK; go_simp; refine hK _ ?_; clear hK K
  (with_reducible refine wl_k ?_ ?_); exact rfl; intro K hK; go_simp; refine hK _ ?_; clear hK K
  clear HC
  go_upto_region 2 with (fail)
  apply wp_region_lit
  (with_reducible refine wl_k ?_ ?_); exact rfl; intro K hK; go_simp; refine hK _ ?_; clear hK K
  go_upto_region 3 with (fail)
  apply wp_region_lit
  (with_reducible refine wl_k ?_ ?_); exact rfl; intro K hK; go_simp; refine hK _ ?_; clear hK K
  (with_reducible refine wl_k ?_ ?_); exact rfl; intro K hK; go_simp; refine hK _ ?_; clear hK K
  (with_reducible refine wl_k ?_ ?_); exact rfl; intro K hK; go_simp; refine hK _ ?_; clear hK K
  (with_reducible refine wl_k ?_ ?_); exact rfl; intro K hK; go_simp; refine hK _ ?_; clear hK K
  refine wl_putR0 (l' := l1) rfl rfl rfl h ?_
  intro W hf hn
  have HF := Lib.hid hf
  have HN := Lib.hid hn
  clear hf hn h
  go_wp2_with fail
  go_ret
  exact ⟨rfl, HN.out, HF.out⟩
set_option maxHeartbeats 2000000 in
set_option maxRecDepth 100000 in
theorem take_none (r : Nat) (p : ByteArray) (l : List UInt8) (f : Bool) (w : World) (h : Rs w r l f) (ht : takeL p.data.toList l = none) :
    Calls Tryd.prog 86 #[.pointer (some ⟨r, 0, none⟩), .string p] w fun e w' => e = .returned (.bool false) ∧ w = w' := by
  have hC := Tryd.strings_CutPrefix (strOf l) p w
  rw [show (strOf l).data.toList = l by simp [strOf], take_lib, ht] at hC
  have HC := Lib.hid hC
  clear hC ht
  go_enter Tryd.func86, Tryd.ntmps86
  go_upto_region 1 with (fail)
  apply wp_region_lit
  (with_reducible refine wl_k ?_ ?_); exact rfl; intro K hK; go_simp; refine hK _ ?_; clear hK K
  (with_reducible refine wl_k ?_ ?_); exact rfl; intro K hK; go_simp; refine hK _ ?_; clear hK K
  (with_reducible refine wl_k ?_ ?_); exact rfl; intro K hK; go_simp; refine hK _ ?_; clear hK K
  ((with_reducible apply wl_oneG); exact rfl; exact rfl; exact r0 h)
  (with_reducible refine wl_k ?_ ?_); exact rfl; intro K hK; go_simp; refine hK _ ?_; clear hK K
  (with_reducible refine wl_ck ?_ ?_); exact rfl; intro K hK; go_simp; refine ⟨_, _, ⟨rfl, rfl⟩, hK _ _ ⟨_, HC.out, ?_⟩⟩; clear hK K; rintro e w3 ⟨rfl, hw⟩; refine ⟨_, rfl, ?_⟩; simp only [put_lit, List.set_cons_zero, List.set_cons_succ]
  (with_reducible refine wl_k ?_ ?_); exact rfl; intro K hK; go_simp; refine hK _ ?_; clear hK K
  (with_reducible refine wl_k ?_ ?_); exact rfl; intro K hK; go_simp; refine hK _ ?_; clear hK K
  (with_reducible refine wl_k ?_ ?_); exact rfl; intro K hK; go_simp; refine hK _ ?_; clear hK K
  (with_reducible refine wl_k ?_ ?_); exact rfl; intro K hK; go_simp; refine hK _ ?_; clear hK K
  (with_reducible refine wl_k ?_ ?_); exact rfl; intro K hK; go_simp; refine hK _ ?_; clear hK K
  have HW := Lib.hid hw
  clear HC hw h
  go_upto_region 2 with (fail)
  apply wp_region_lit
  (with_reducible refine wl_k ?_ ?_); exact rfl; intro K hK; go_simp; refine hK _ ?_; clear hK K
  go_wp2_with fail
  go_ret
  exact ⟨rfl, HW.out.symm⟩
set_option maxHeartbeats 2000000 in
set_option maxRecDepth 100000 in
theorem want_some (r : Nat) (p : ByteArray) (l l1 : List UInt8) (f : Bool) (w : World) (h : Rs w r l f) (ht : takeL p.data.toList l = some l1) :
    Calls Tryd.prog 110 #[.pointer (some ⟨r, 0, none⟩), .string p] w fun e w' => e = .returned (.tuple #[]) ∧ Rs w' r l1 f ∧ Fr r r w w' := by
  have HC := Lib.hid (take_some r p l l1 f w h ht)
  clear h ht
  go_enter Tryd.func110, Tryd.ntmps110
  go_upto_region 0 with (fail)
  apply wp_region_lit
  (with_reducible refine wl_k ?_ ?_); exact rfl; intro K hK; go_simp; refine hK _ ?_; clear hK K
  (with_reducible refine wl_k ?_ ?_); exact rfl; intro K hK; go_simp; refine hK _ ?_; clear hK K
  (with_reducible refine wl_ck ?_ ?_); exact rfl; intro K hK; go_simp; refine ⟨_, _, ⟨rfl, rfl⟩, hK _ _ ⟨_, HC.out, ?_⟩⟩; clear hK K; rintro e w3 ⟨rfl, hn, hf⟩; refine ⟨_, rfl, ?_⟩; simp only [put_lit, List.set_cons_zero, List.set_cons_succ]
  (with_reducible refine wl_k ?_ ?_); exact rfl; intro K hK; go_simp; refine hK _ ?_; clear hK K
  have HF := Lib.hid hf
  have HN := Lib.hid hn
  clear hf hn HC
  go_wp2_with fail
  go_end0
  exact ⟨rfl, HN.out, HF.out⟩
set_option maxHeartbeats 2000000 in
set_option maxRecDepth 100000 in
theorem want_none (r : Nat) (p : ByteArray) (l : List UInt8) (f : Bool) (w : World) (h : Rs w r l f) (ht : takeL p.data.toList l = none) :
    Calls Tryd.prog 110 #[.pointer (some ⟨r, 0, none⟩), .string p] w fun e w' => e = .returned (.tuple #[]) ∧ Rs w' r l true ∧ Fr r r w w' := by
  have HC := Lib.hid (take_none r p l f w h ht)
  clear ht
  go_enter Tryd.func110, Tryd.ntmps110
  go_upto_region 0 with (fail)
  apply wp_region_lit
  (with_reducible refine wl_k ?_ ?_); exact rfl; intro K hK; go_simp; refine hK _ ?_; clear hK K
  (with_reducible refine wl_k ?_ ?_); exact rfl; intro K hK; go_simp; refine hK _ ?_; clear hK K
  (with_reducible refine wl_ck ?_ ?_); exact rfl; intro K hK; go_simp; refine ⟨_, _, ⟨rfl, rfl⟩, hK _ _ ⟨_, HC.out, ?_⟩⟩; clear hK K; rintro e w3 ⟨rfl, rfl⟩; refine ⟨_, rfl, ?_⟩; simp only [put_lit, List.set_cons_zero, List.set_cons_succ]
  (with_reducible refine wl_k ?_ ?_); exact rfl; intro K hK; go_simp; refine hK _ ?_; clear hK K
  clear HC
  go_upto_region 1 with (fail)
  apply wp_region_lit
  (with_reducible refine wl_k ?_ ?_); exact rfl; intro K hK; go_simp; refine hK _ ?_; clear hK K
  (with_reducible refine wl_k ?_ ?_); exact rfl; intro K hK; go_simp; refine hK _ ?_; clear hK K
  (with_reducible refine wl_k ?_ ?_); exact rfl; intro K hK; go_simp; refine hK _ ?_; clear hK K
  refine wl_putR1 rfl rfl h ?_
  intro W hf hn
  have HF := Lib.hid hf
  have HN := Lib.hid hn
  clear hf hn h
  go_wp2_with fail
  go_end0
  exact ⟨rfl, HN.out, HF.out⟩
end Go.Proofs.YtokmaehefenpmaaDoor
