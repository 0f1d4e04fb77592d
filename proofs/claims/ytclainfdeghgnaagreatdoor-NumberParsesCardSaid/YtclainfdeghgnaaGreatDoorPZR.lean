/- The row of NumberParses, and its tied card. -/
import Derived.Test.YtclainfdeghgnaaGreatDoorCards
import Derived.Test.YtclainfdeghgnaaGreatDoorPZ7
import Derived.Test.YtclainfdeghgnaaGreatDoorPZ8
import Derived.Test.YtclainfdeghgnaaGreatDoorPZ11
namespace Go.Proofs.YtclainfdeghgnaaGreatDoor
open Go.ChangeShapes Go.WideShapes Go.ChangeAt Go.RowKit
open Go.ChangeMaps (open_string)
set_option maxRecDepth 100000 in
theorem numberParses_lifted (os : Os) (started : os.Started) (H : Type) (enc : TypeId × Value → H) :
    ReturnsInHanded {} Tryz.checked os 3 .any (fun w args => (Rows.numberParsesSpec.pre enc Tryz.prog Tryz.f3 [] false w args ∧ laidMetH Tryz.prog lay5 w) ∧ sizedMet enc Tryz.prog Tryz.f3 (OpenSpec.ofChange Rows.numberParsesSpec) false w args)
      (Rows.numberParsesSpec.post enc Tryz.prog Tryz.f3 false true false false) := by
  refine handed_shaped (X := fun w => laidMetH Tryz.prog lay5 w) (fun _ _ hh h => h.of_heap hh) started (by kernel_rfl) Tryz.func3
    (ChangeSpec.witness_shaped (enc := enc) (C := Tryz.checked) (os := os) (X := fun w _ => laidMetH Tryz.prog lay5 w) false (World.doorLaid Tryz.prog 62 os) #[.string ⟨#[]⟩] 8 rfl (World.shaped_of_RefB (by kernel_rfl) (by kernel_rfl)) (by kernel_rfl) (by kernel_rfl) (by kernel_rfl) (lay5_met os _)) ?_
  intro W base args ds gs before hval0 hW hL hsh
  have hval : ∀ (j : Nat) t v, Tryz.f3.params[j]? = some t → args[j]? = some v → Value.okWide Tryz.prog W .any base t v := hval0
  have hW' := hW
  have hlt := hW.lt
  obtain ⟨p, q, hA0, hV, rfl, hfz, hnd⟩ := hW
  have hA : DataW.TrodAll enc Tryz.prog W 0 (fun _ => true) true Tryz.f3.params.toList args.toList ds p := hA0
  rw [Tryz.params3] at hA hval
  obtain ⟨v0, d0, rfl, rfl, h0⟩ := trodAll_one hA
  obtain ⟨rfl, rfl⟩ := trodVars_none hV
  have q0 := fun {W' : World} (hb : Below W.heap.size W W') => Below.trod laidOut0 (by kernel_rfl) (of_decide_eq_true (by kernel_rfl)) h0 hb (fun x hx => hlt x (by simp [hx]))
  obtain ⟨s0, rfl, _, _, z0⟩ := open_string row_u9 (hval 0 9 v0 rfl rfl) h0
  refine (NumberParses_any s0 W (env_of hL hsh)).mono fun e W' ⟨he, hb⟩ => ?_
  subst he
  refine ⟨_, rfl, _, _, _, [], p, [], hW', ?_, ?_, ?_, hb.frame _, fun h => by cases h⟩
  · exact trodAll_mk1 (RowKit.shut_bool row_u4 true)
  · exact trodAll_mk1 (q0 hb)
  · rfl
theorem numberParses_holds : Rows.NumberParsesSaid :=
  OpenClaim.holds_of_wide 3 Tryz.f3 rfl rfl rfl rfl rfl rfl rfl ⟨rfl, rfl, rfl, rfl, rfl⟩ rfl rfl rfl rfl rfl (by kernel_rfl) Tryz.func3 (by kernel_rfl)
    (of_decide_eq_true (by kernel_rfl)) (by unfold Func.isWrapper; first | (rw [if_pos (by decide +kernel)]; kernel_rfl) | (rw [if_neg (by decide +kernel)]; exact ⟨rfl, rfl⟩))
    (fun os started H enc _ => numberParses_lifted os started H enc)
theorem numberParses_card : Rows.NumberParsesCardSaid :=
  Claim7.holds_tied_plain_at .later [] [.data, .data, .data, .sentinel, .sentinel] true (true, "52fc3ce01b685a2ed9cdc407f39f9ae3e42b154049746b54a926f2f1dd54acdc") true
    numberParses_holds (fun _ h => by cases h) (by kernel_rfl) (fun _ h => by cases h) numberParses_row_tie rfl ⟨rfl, rfl⟩ (by kernel_rfl) rfl
    (fun f fn hf hfn => by
      obtain rfl : f = 3 := Option.some.inj ((show Tryz.prog.funcNamed "covalent/covalentlaw26.NumberParses" = some 3 by kernel_rfl).symm.trans hf) |>.symm
      obtain rfl : fn = Tryz.f3 := (Option.some.inj (Tryz.func3.symm.trans hfn)).symm
      exact ⟨by kernel_rfl, fun j t ht => by
        rw [Tryz.params3] at ht
        have hm : t ∈ [9, 4] := by
          have := Array.mem_of_getElem? ht
          simp at this ⊢; first | exact Or.inl this | (rcases this with h | h <;> simp [h]) | (rcases this with h | h | h <;> simp [h])
        have hall : ([9, 4].all fun u => !Tryz.prog.wantsStandIn u) = true := by kernel_rfl
        exact (show Tryz.prog.wantsStandIn t = false by simpa using List.all_eq_true.1 hall t hm)⟩)
    (by kernel_rfl)
end Go.Proofs.YtclainfdeghgnaaGreatDoor
