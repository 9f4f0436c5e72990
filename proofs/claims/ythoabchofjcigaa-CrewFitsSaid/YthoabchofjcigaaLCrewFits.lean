/- Fits and Check answer as the reference does, and all four report the same error; no condition. -/
import Derived.Test.YthoabchofjcigaaRows
import Derived.Test.YthoabchofjcigaaLw
import Derived.Test.YthoabchofjcigaaWkc
import Derived.Test.YthoabchofjcigaaPlh
import Derived.WalkKit
import Derived.ProofKit
import Derived.OpenShut
namespace Go.Proofs.Ythoabchofjcigaa.crewFits
open Go.ChangeShapes Go.WideShapes Go.ChangeAt Go.RowKit Go.Gv

theorem own : ownKnob Try.prog.godebug = none := by kernel_rfl
theorem laidOut : laidOutB Try.prog = true := by kernel_rfl

theorem opT3 : OpenT Try.prog 3 Int in64P := openT_i64 Try.underlying3 (by kernel_rfl)

theorem opT37 : OpenT Try.prog 37 T_Task (fun x => (in64P x.From) ∧ (in64P x.To)) := ⟨fun {_ _ _ _ cs _} h => by
    obtain ⟨hl, hf⟩ := field_cs Try.underlying37 h
    obtain ⟨n0, z0, q0⟩ := hf 0 _ rfl
    obtain ⟨x0, e0, o0⟩ := opT3.op q0
    have d0 := drop_split (k' := 1) (by kernel_rfl) e0
    have d0 : cs.drop 0 = Flat.enc x0 ++ cs.drop 1 := d0
    obtain ⟨n1, z1, q1⟩ := hf 1 _ rfl
    obtain ⟨x1, e1, o1⟩ := opT3.op q1
    have d1 := drop_split (k' := 1) (by kernel_rfl) e1
    have d1 : cs.drop 1 = Flat.enc x1 ++ cs.drop 2 := d1
    refine ⟨T_Task.mk x0 x1, ?_, ⟨o0, o1⟩⟩
    have hn : cs.length = 2 := hl.trans (by kernel_rfl)
    have e : cs = cs.drop 0 := rfl
    rw [d0, d1, List.drop_of_length_le (by omega)] at e
    exact e, by kernel_rfl, by decide⟩

theorem opT39 : OpenT Try.prog 39 T_Crew (fun x => (in64P x.From) ∧ (in64P x.To) ∧ (in64P x.Most)) := ⟨fun {_ _ _ _ cs _} h => by
    obtain ⟨hl, hf⟩ := field_cs Try.underlying39 h
    obtain ⟨n0, z0, q0⟩ := hf 0 _ rfl
    obtain ⟨x0, e0, o0⟩ := opT3.op q0
    have d0 := drop_split (k' := 1) (by kernel_rfl) e0
    have d0 : cs.drop 0 = Flat.enc x0 ++ cs.drop 1 := d0
    obtain ⟨n1, z1, q1⟩ := hf 1 _ rfl
    obtain ⟨x1, e1, o1⟩ := opT3.op q1
    have d1 := drop_split (k' := 1) (by kernel_rfl) e1
    have d1 : cs.drop 1 = Flat.enc x1 ++ cs.drop 2 := d1
    obtain ⟨n2, z2, q2⟩ := hf 2 _ rfl
    obtain ⟨x2, e2, o2⟩ := opT3.op q2
    have d2 := drop_split (k' := 1) (by kernel_rfl) e2
    have d2 : cs.drop 2 = Flat.enc x2 ++ cs.drop 3 := d2
    refine ⟨T_Crew.mk x0 x1 x2, ?_, ⟨o0, o1, o2⟩⟩
    have hn : cs.length = 3 := hl.trans (by kernel_rfl)
    have e : cs = cs.drop 0 := rfl
    rw [d0, d1, d2, List.drop_of_length_le (by omega)] at e
    exact e, by kernel_rfl, by decide⟩

theorem opT41 : OpenT Try.prog 41 T_Pair (fun x => (in64P x.Duty) ∧ (in64P x.Crew)) := ⟨fun {_ _ _ _ cs _} h => by
    obtain ⟨hl, hf⟩ := field_cs Try.underlying41 h
    obtain ⟨n0, z0, q0⟩ := hf 0 _ rfl
    obtain ⟨x0, e0, o0⟩ := opT3.op q0
    have d0 := drop_split (k' := 1) (by kernel_rfl) e0
    have d0 : cs.drop 0 = Flat.enc x0 ++ cs.drop 1 := d0
    obtain ⟨n1, z1, q1⟩ := hf 1 _ rfl
    obtain ⟨x1, e1, o1⟩ := opT3.op q1
    have d1 := drop_split (k' := 1) (by kernel_rfl) e1
    have d1 : cs.drop 1 = Flat.enc x1 ++ cs.drop 2 := d1
    refine ⟨T_Pair.mk x0 x1, ?_, ⟨o0, o1⟩⟩
    have hn : cs.length = 2 := hl.trans (by kernel_rfl)
    have e : cs = cs.drop 0 := rfl
    rw [d0, d1, List.drop_of_length_le (by omega)] at e
    exact e, by kernel_rfl, by decide⟩

set_option maxRecDepth 100000 in
theorem lifted (os : Os) (started : os.Started) (H : Type) (enc : TypeId × Value → H) :
    ReturnsInHanded {} Try.checked os 5 .any (Rows.crewFitsSpec.pre6 enc Try.prog Try.f5 Rows.crewFitsRow.domain false) (Rows.crewFitsSpec.post enc Try.prog Try.f5 false true false false) := by
  refine returnsInHanded_of_change (C := Try.checked) own started (by kernel_rfl) Try.func5
    (ChangeSpec.witness6 (enc := enc) (C := Try.checked) false ⟨#[], #[.slice none 0 0, .slice none 0 0, .slice none 0 0, .slice none 0 0], []⟩ 8 (by kernel_rfl) (by kernel_rfl) (by kernel_rfl) (by kernel_rfl)) ?_
  intro W base args ds gs before hval0 hW _ _
  have hval : ∀ (j : Nat) t v, Try.f5.params[j]? = some t → args[j]? = some v → Value.okWide Try.prog W .any base t v := hval0
  have hW' := hW
  obtain ⟨p, q, hA0, hV, rfl, _, _⟩ := hW
  have hA : DataW.TrodAll enc Try.prog W 0 (fun _ => true) true Try.f5.params.toList args.toList ds p := hA0
  rw [Try.params5] at hA hval
  obtain ⟨v0, vs0, d0, ds0, p0, q0, hargs, rfl, rfl, h0, r0⟩ := trodAll_cons hA
  obtain ⟨v1, vs1, d1, ds1, p1, q1, rfl, rfl, rfl, h1, r1⟩ := trodAll_cons r0
  obtain ⟨v2, vs2, d2, ds2, p2, q2, rfl, rfl, rfl, h2, r2⟩ := trodAll_cons r1
  obtain ⟨v3, vs3, d3, ds3, p3, q3, rfl, rfl, rfl, h3, r3⟩ := trodAll_cons r2
  obtain ⟨rfl, rfl, rfl⟩ := trodAll_nil r3
  obtain rfl : args = #[v0, v1, v2, v3] := by cases args; simp_all
  obtain ⟨rfl, rfl⟩ := trodVars_none hV
  obtain ⟨b0, hs0, hw0⟩ := int_list Try.underlying22 Try.underlying3 (by kernel_rfl) (hval 0 22 v0 rfl rfl) h0
  obtain ⟨b1, hs1, hw1⟩ := opT37.list Try.underlying25 (hval 1 25 v1 rfl rfl) h1
  obtain ⟨b2, hs2, hw2⟩ := opT39.list Try.underlying26 (hval 2 26 v2 rfl rfl) h2
  obtain ⟨b3, hs3, hw3⟩ := opT41.list Try.underlying29 (hval 3 29 v3 rfl rfl) h3
  clear hA0 hval0
  simp only [List.append_nil] at hW'
  refine Calls.mono (law40_CrewFits_ok (CrewFits_true b0 b1 b2 b3) hs0 hs1 hs2 hs3) fun e W' ⟨u, he, hu, hm⟩ => ?_
  subst he; subst hu
  have hb := below_of_mem hm
  exact ⟨_, rfl, post_below (pa := (p0 ++ (p1 ++ (p2 ++ (p3 ++ []))))) (pv := []) hW' (fun _ _ _ => (trodAll_cons_mk (shut_bool Try.underlying4 _) trodAll_mk0)) (trodAll_cons_mk (Below.trod laidOut (by kernel_rfl) (of_decide_eq_true (by kernel_rfl)) h0 hb (fun x hx => hW'.lt x (by simp [hx]))) (trodAll_cons_mk (Below.trod laidOut (by kernel_rfl) (of_decide_eq_true (by kernel_rfl)) h1 hb (fun x hx => hW'.lt x (by simp [hx]))) (trodAll_cons_mk (Below.trod laidOut (by kernel_rfl) (of_decide_eq_true (by kernel_rfl)) h2 hb (fun x hx => hW'.lt x (by simp [hx]))) (trodAll_cons_mk (Below.trod laidOut (by kernel_rfl) (of_decide_eq_true (by kernel_rfl)) h3 hb (fun x hx => hW'.lt x (by simp [hx]))) trodAll_mk0)))) rfl (by simp) hb⟩

theorem proved : Rows.CrewFitsSaid :=
  OpenClaim.holds_of_wide 5 Try.f5 rfl rfl rfl rfl rfl rfl rfl ⟨rfl, rfl, rfl, rfl, rfl⟩ rfl rfl rfl rfl rfl (by kernel_rfl) Try.func5 (by kernel_rfl)
    (of_decide_eq_true (by kernel_rfl)) (by unfold Func.isWrapper; first | (rw [if_pos (by decide +kernel)]; kernel_rfl) | (rw [if_neg (by decide +kernel)]; exact ⟨rfl, rfl⟩))
    (fun os started H enc _ => lifted os started H enc)
#print axioms proved
end Go.Proofs.Ythoabchofjcigaa.crewFits
