/- The row of TypesMatch, and its tied card. -/
import Derived.Test.YtokmaehefenpmaaDoorR0
import Derived.Test.YtokmaehefenpmaaDoorR0b
import Derived.Test.YtokmaehefenpmaaDoorL7
import Derived.Test.YtokmaehefenpmaaDoorCards
namespace Go.Proofs.YtokmaehefenpmaaDoor
open Go.ChangeShapes Go.WideShapes Go.ChangeAt Go.RowKit
set_option maxRecDepth 100000 in
theorem typesMatch_lifted (os : Os) (started : os.Started) (H : Type) (enc : TypeId × Value → H) :
    ReturnsInHanded {} Tryd.checked os 6 .any (fun w args => (Rows.typesMatchSpec.pre enc Tryd.prog Tryd.f6 [] false w args ∧ laidMetH Tryd.prog lay3 w) ∧ sizedMet enc Tryd.prog Tryd.f6 (OpenSpec.ofChange Rows.typesMatchSpec) false w args)
      (Rows.typesMatchSpec.post enc Tryd.prog Tryd.f6 false true false false) := by
  refine returnsInHanded_of_change_and (C := Tryd.checked) (X := fun w _ => laidMetH Tryd.prog lay3 w) (fun _ _ _ hh h => h.of_heap hh) own0 started (by kernel_rfl) Tryd.func6
    (ChangeSpec.witness_shaped (enc := enc) (C := Tryd.checked) (os := os) (X := fun w _ => laidMetH Tryd.prog lay3 w) false (World.doorLaid Tryd.prog 62 os) #[.slice none 0 0, .agg #[.int .i64 0, .string ⟨#[]⟩, .int .i64 0, .slice none 0 0], .agg #[.int .i64 0, .string ⟨#[]⟩, .int .i64 0, .slice none 0 0]] 8 rfl (World.shaped_of_RefB (by kernel_rfl) (by kernel_rfl)) (by kernel_rfl) (by kernel_rfl) (by kernel_rfl) (lay3_met os _)) ?_
  intro W base args ds gs before hval0 hW _ _ _ _
  have hval : ∀ (j : Nat) t v, Tryd.f6.params[j]? = some t → args[j]? = some v → Value.okWide Tryd.prog W .any base t v := hval0
  have hW' := hW
  have hlt := hW.lt
  obtain ⟨p, q, hA0, hV, rfl, hfz, hnd⟩ := hW
  have hA : DataW.TrodAll enc Tryd.prog W 0 (fun _ => true) true Tryd.f6.params.toList args.toList ds p := hA0
  rw [Tryd.params6] at hA hval
  obtain ⟨v0, v1, v2, d0, d1, d2, p0, p1, p2, rfl, rfl, rfl, h0, h1, h2⟩ := trodAll_three hA
  obtain ⟨rfl, rfl⟩ := trodVars_none hV
  have q0 := fun {W' : World} (hb : Below W.heap.size W W') => Below.trod laidOut0 (by kernel_rfl) (of_decide_eq_true (by kernel_rfl)) h0 hb (fun x hx => hlt x (by simp [hx]))
  have q1 := fun {W' : World} (hb : Below W.heap.size W W') => Below.trod laidOut0 (by kernel_rfl) (of_decide_eq_true (by kernel_rfl)) h1 hb (fun x hx => hlt x (by simp [hx]))
  have q2 := fun {W' : World} (hb : Below W.heap.size W W') => Below.trod laidOut0 (by kernel_rfl) (of_decide_eq_true (by kernel_rfl)) h2 hb (fun x hx => hlt x (by simp [hx]))
  obtain ⟨A0, l0, c0, ns0, rfl, h0n⟩ := open_names (hval 0 25 v0 rfl rfl) h0
  obtain ⟨row1, t1, rfl, h1t⟩ := open_ty (hval 1 24 v1 rfl rfl) h1
  obtain ⟨row2, t2, rfl, h2t⟩ := open_ty (hval 2 24 v2 rfl rfl) h2
  refine (TypesMatch_any ns0 t1 t2 W _ _ row1 row2 h1t h2t A0 l0 c0 h0n.1 h0n.2).mono fun e W' ⟨he, hb⟩ => ?_
  subst he
  refine ⟨_, rfl, _, _, _, [], p0 ++ (p1 ++ p2), [], hW', ?_, ?_, ?_, hb.frame _, fun h => by cases h⟩
  · exact trodAll_mk1 (RowKit.shut_bool row_u4 true)
  · exact trodAll_mk3 (q0 hb) (q1 hb) (q2 hb)
  · rfl
theorem typesMatch_holds : Rows.TypesMatchSaid :=
  OpenClaim.holds_of_wide 6 Tryd.f6 rfl rfl rfl rfl rfl rfl rfl ⟨rfl, rfl, rfl, rfl, rfl⟩ rfl rfl rfl rfl rfl (by kernel_rfl) Tryd.func6 (by kernel_rfl)
    (of_decide_eq_true (by kernel_rfl)) (by unfold Func.isWrapper; first | (rw [if_pos (by decide +kernel)]; kernel_rfl) | (rw [if_neg (by decide +kernel)]; exact ⟨rfl, rfl⟩))
    (fun os started H enc _ => typesMatch_lifted os started H enc)
theorem typesMatch_card : Rows.TypesMatchCardSaid :=
  Claim7.holds_tied_plain_at .later [] [.data, .data, .data] true (true, "79ff3491affca263dd6dd82ca77aa1e49ff6af32222f2804afa1a60c59480018") true
    typesMatch_holds (fun _ h => by cases h) (by kernel_rfl) (fun _ h => by cases h) typesMatch_row_tie rfl ⟨rfl, rfl⟩ (by kernel_rfl) rfl
    (fun f fn hf hfn => by
      obtain rfl : f = 6 := Option.some.inj ((show Tryd.prog.funcNamed "covalent/covalentlaw03.TypesMatch" = some 6 by kernel_rfl).symm.trans hf) |>.symm
      obtain rfl : fn = Tryd.f6 := (Option.some.inj (Tryd.func6.symm.trans hfn)).symm
      exact ⟨by kernel_rfl, fun j t ht => by
        rw [Tryd.params6] at ht
        have hm : t ∈ [25, 24, 4] := by
          have := Array.mem_of_getElem? ht
          simp at this ⊢; first | exact Or.inl this | (rcases this with h | h <;> simp [h]) | (rcases this with h | h | h <;> simp [h])
        have hall : ([25, 24, 4].all fun u => !Tryd.prog.wantsStandIn u) = true := by kernel_rfl
        exact (show Tryd.prog.wantsStandIn t = false by simpa using List.all_eq_true.1 hall t hm)⟩)
    (by kernel_rfl)
end Go.Proofs.YtokmaehefenpmaaDoor
