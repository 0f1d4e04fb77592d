/- The row of HeapClones, where what it reads is small. -/
import Derived.JoinedCond
import Derived.Test.YtpamocglecangaaPD18
import Derived.Test.YtpamocglecangaaPD16
set_option maxHeartbeats 16000000
set_option maxRecDepth 100000
namespace Go.Proofs.Ytpamocglecangaa
open Go.ChangeShapes Go.WideShapes Go.ChangeAt Go.RowKit
theorem heapClones_lifted (os : Os) (started : os.Started) (H : Type) (enc : TypeId × Value -> H) (F : Stop.Interp) :
  ReturnsInHanded {} Try.checked os 5 .any ((Rows.OpenSpec.upto Rows.heapClonesSpec).pre6 enc Try.prog Try.f5 Rows.heapClonesUptoRow.domain false) (((Rows.OpenSpec.upto Rows.heapClonesSpec).at F).post enc Try.prog Try.f5 false true false false) := by
 refine returnsInHanded_of_cond (C := Try.checked) (s := Rows.OpenSpec.upto Rows.heapClonesSpec) (k := Rows.uptoSmall) rfl own0 started (by kernel_rfl) Try.func5
  (OpenSpec.witness (enc := enc) (C := Try.checked) (s := Rows.OpenSpec.upto Rows.heapClonesSpec) (k := Rows.uptoSmall) rfl false ⟨#[], #[.slice none 0 0, .slice none 0 0, .slice none 0 0], []⟩ 8 (by kernel_rfl) (by kernel_rfl) (by kernel_rfl)
   (x := ([.nil, .nil, .nil], [], [])) (by kernel_rfl) rfl (by kernel_rfl)) ?_
 intro W base args ds gs before hval0 hW _ hk _
 have hval : ∀ (j : Nat) t v, Try.f5.params[j]? = some t -> args[j]? = some v -> Value.okWide Try.prog W .any base t v := hval0
 have hW' := hW
 have hlt := hW.lt
 obtain ⟨p, q, hA0, hV, rfl, hfz, hnd⟩ := hW
 have hA : DataW.TrodAll enc Try.prog W 0 (fun _ => true) true Try.f5.params.toList args.toList ds p := hA0
 rw [Try.params5] at hA hval
 obtain ⟨v0, v1, v2, d0, d1, d2, p0, p1, p2, rfl, rfl, rfl, h0, h1, h2⟩ := trodAll_three hA
 obtain ⟨rfl, rfl⟩ := trodVars_none hV
 have t0 := fun {W' : World} (hb : Below W.heap.size W W') => Below.trod laidOut0 (by kernel_rfl) (of_decide_eq_true (by kernel_rfl)) h0 hb (fun x hx => hlt x (by simp [hx]))
 have t1 := fun {W' : World} (hb : Below W.heap.size W W') => Below.trod laidOut0 (by kernel_rfl) (of_decide_eq_true (by kernel_rfl)) h1 hb (fun x hx => hlt x (by simp [hx]))
 have t2 := fun {W' : World} (hb : Below W.heap.size W W') => Below.trod laidOut0 (by kernel_rfl) (of_decide_eq_true (by kernel_rfl)) h2 hb (fun x hx => hlt x (by simp [hx]))
 have hbk : Rows.uptoBulkAll ([d0, d1, d2] ++ []) <= 1048576 := of_decide_eq_true hk
 simp only [List.cons_append, List.nil_append, Rows.uptoBulkAll] at hbk
 obtain ⟨A0, n0, c0, ns, rfl, hs⟩ := open_ss (hval 0 22 v0 rfl rfl) h0
 obtain ⟨A, l, c, qs, rfl, hcs, hw⟩ := open_callsF (hval 1 23 v1 rfl rfl) h1
 obtain ⟨A2, l2, c2, qs2, rfl, hcs2, hw2⟩ := open_callsF (hval 2 23 v2 rfl rfl) h2
 have hall : ∀ q, q ∈ qs ∨ q ∈ qs2 -> clF q <= 1048576 := fun q hq => by
  rcases hq with hq | hq
  ·have := hw q hq; omega
  ·have := hw2 q hq; omega
 refine (clones_any (S := 1048576) (by omega) hs hs.max hcs hcs2 (fun q hq => (clF_fit (hall q hq)).2) (fun q hq => (clF_fit (hall q hq)).1)).mono fun e W' ⟨he, hb⟩ => ?_
 subst he
 refine ⟨_, rfl, _, _, _, [], p0 ++ (p1 ++ p2), [], hW', ?_, ?_, ?_, hb.frame _, fun h => by cases h⟩
 ·exact trodAll_mk1 (RowKit.shut_bool row_u4 true)
 ·exact trodAll_mk3 (t0 hb) (t1 hb) (t2 hb)
 ·rfl
theorem heapClones_upto : Rows.HeapClonesUptoSaid :=
 OpenClaim.holds_of_cond 5 Try.f5 rfl rfl rfl rfl rfl rfl rfl ⟨rfl, rfl, rfl, rfl, rfl⟩ rfl rfl rfl rfl rfl (by kernel_rfl) Try.func5 (by kernel_rfl)
  (of_decide_eq_true (by kernel_rfl)) (by unfold Func.isWrapper; first | (rw [if_pos (by decide +kernel)]; kernel_rfl) | (rw [if_neg (by decide +kernel)]; exact ⟨rfl, rfl⟩))
  (fun os started H enc _ F => heapClones_lifted os started H enc F)
end Go.Proofs.Ytpamocglecangaa
