/- CutExact: for every input of the statement the program's functions and the reference agree on cuts, witnesses, permissions and checks. No conditions. -/
import Derived.Test.YtiffggmeebajpaaRows
import Derived.Test.YtiffggmeebajpaaLw
import Derived.Test.YtiffggmeebajpaaWkb
import Derived.Test.YtiffggmeebajpaaPlf
import Derived.WalkKit
import Derived.ProofKit
import Derived.OpenShut
namespace Go.Proofs.Ytiffggmeebajpaa.cutExact
open Go.ChangeShapes Go.WideShapes Go.ChangeAt Go.RowKit Go.Gv

theorem own : ownKnob Try.prog.godebug = none := by kernel_rfl
theorem laidOut : laidOutB Try.prog = true := by kernel_rfl

theorem opT3 : OpenT Try.prog 3 Int in64P := openT_i64 Try.underlying3 (by kernel_rfl)

theorem opT4 : OpenT Try.prog 4 Bool (fun _ => True) := openT_bool Try.underlying4 (by kernel_rfl)

theorem opT26 : OpenT Try.prog 26 T_Pushed (fun x => (in64P x.Length) ∧ (in64P x.Axles) ∧ (in64P x.Mass) ∧ True ∧ (in64P x.Track)) := ⟨fun {_ _ _ _ cs _} h => by
    obtain ⟨hl, hf⟩ := field_cs Try.underlying26 h
    obtain ⟨n0, z0, q0⟩ := hf 0 _ rfl
    obtain ⟨x0, e0, o0⟩ := opT3.op q0
    have d0 := drop_split (k' := 1) (by kernel_rfl) e0
    have d0 : cs.drop 0 = Flat.enc x0 ++ cs.drop 1 := d0
    obtain ⟨n1, z1, q1⟩ := hf 1 _ rfl
    obtain ⟨x1, e1, o1⟩ := opT3.op q1
    have d1 := drop_split (k' := 1) (by kernel_rfl) e1
    have d1 : cs.drop 1 = Flat.enc x1 ++ cs.drop 2 := d1
    obtain ⟨n2, z2, q2⟩ := hf 2 _ rfl
    obtain ⟨x2, e2, o2⟩ := opT3.op q2
    have d2 := drop_split (k' := 1) (by kernel_rfl) e2
    have d2 : cs.drop 2 = Flat.enc x2 ++ cs.drop 3 := d2
    obtain ⟨n3, z3, q3⟩ := hf 3 _ rfl
    obtain ⟨x3, e3, o3⟩ := opT4.op q3
    have d3 := drop_split (k' := 1) (by kernel_rfl) e3
    have d3 : cs.drop 3 = Flat.enc x3 ++ cs.drop 4 := d3
    obtain ⟨n4, z4, q4⟩ := hf 4 _ rfl
    obtain ⟨x4, e4, o4⟩ := opT3.op q4
    have d4 := drop_split (k' := 1) (by kernel_rfl) e4
    have d4 : cs.drop 4 = Flat.enc x4 ++ cs.drop 5 := d4
    refine ⟨T_Pushed.mk x0 x1 x2 x3 x4, ?_, ⟨o0, o1, o2, o3, o4⟩⟩
    have hn : cs.length = 5 := hl.trans (by kernel_rfl)
    have e : cs = cs.drop 0 := rfl
    rw [d0, d1, d2, d3, d4, List.drop_of_length_le (by omega)] at e
    exact e, by kernel_rfl, by decide⟩

theorem opT23 : OpenT Try.prog 23 T_CutRules (fun x => (in64P x.Wagons) ∧ (in64P x.Axles) ∧ (in64P x.Length)) := ⟨fun {_ _ _ _ cs _} h => by
    obtain ⟨hl, hf⟩ := field_cs Try.underlying23 h
    obtain ⟨n0, z0, q0⟩ := hf 0 _ rfl
    obtain ⟨x0, e0, o0⟩ := opT3.op q0
    have d0 := drop_split (k' := 1) (by kernel_rfl) e0
    have d0 : cs.drop 0 = Flat.enc x0 ++ cs.drop 1 := d0
    obtain ⟨n1, z1, q1⟩ := hf 1 _ rfl
    obtain ⟨x1, e1, o1⟩ := opT3.op q1
    have d1 := drop_split (k' := 1) (by kernel_rfl) e1
    have d1 : cs.drop 1 = Flat.enc x1 ++ cs.drop 2 := d1
    obtain ⟨n2, z2, q2⟩ := hf 2 _ rfl
    obtain ⟨x2, e2, o2⟩ := opT3.op q2
    have d2 := drop_split (k' := 1) (by kernel_rfl) e2
    have d2 : cs.drop 2 = Flat.enc x2 ++ cs.drop 3 := d2
    refine ⟨T_CutRules.mk x0 x1 x2, ?_, ⟨o0, o1, o2⟩⟩
    have hn : cs.length = 3 := hl.trans (by kernel_rfl)
    have e : cs = cs.drop 0 := rfl
    rw [d0, d1, d2, List.drop_of_length_le (by omega)] at e
    exact e, by kernel_rfl, by decide⟩

theorem opT33 : OpenT Try.prog 33 T_Cut (fun x => (in64P x.From) ∧ (in64P x.To) ∧ (in64P x.Track) ∧ True) := ⟨fun {_ _ _ _ cs _} h => by
    obtain ⟨hl, hf⟩ := field_cs Try.underlying33 h
    obtain ⟨n0, z0, q0⟩ := hf 0 _ rfl
    obtain ⟨x0, e0, o0⟩ := opT3.op q0
    have d0 := drop_split (k' := 1) (by kernel_rfl) e0
    have d0 : cs.drop 0 = Flat.enc x0 ++ cs.drop 1 := d0
    obtain ⟨n1, z1, q1⟩ := hf 1 _ rfl
    obtain ⟨x1, e1, o1⟩ := opT3.op q1
    have d1 := drop_split (k' := 1) (by kernel_rfl) e1
    have d1 : cs.drop 1 = Flat.enc x1 ++ cs.drop 2 := d1
    obtain ⟨n2, z2, q2⟩ := hf 2 _ rfl
    obtain ⟨x2, e2, o2⟩ := opT3.op q2
    have d2 := drop_split (k' := 1) (by kernel_rfl) e2
    have d2 : cs.drop 2 = Flat.enc x2 ++ cs.drop 3 := d2
    obtain ⟨n3, z3, q3⟩ := hf 3 _ rfl
    obtain ⟨x3, e3, o3⟩ := opT4.op q3
    have d3 := drop_split (k' := 1) (by kernel_rfl) e3
    have d3 : cs.drop 3 = Flat.enc x3 ++ cs.drop 4 := d3
    refine ⟨T_Cut.mk x0 x1 x2 x3, ?_, ⟨o0, o1, o2, o3⟩⟩
    have hn : cs.length = 4 := hl.trans (by kernel_rfl)
    have e : cs = cs.drop 0 := rfl
    rw [d0, d1, d2, d3, List.drop_of_length_le (by omega)] at e
    exact e, by kernel_rfl, by decide⟩

set_option maxRecDepth 100000 in
theorem lifted (os : Os) (started : os.Started) (H : Type) (enc : TypeId × Value → H) :
    ReturnsInHanded {} Try.checked os 7 .any (Rows.cutExactSpec.pre6 enc Try.prog Try.f7 Rows.cutExactRow.domain false) (Rows.cutExactSpec.post enc Try.prog Try.f7 false true false false) := by
  refine returnsInHanded_of_change (C := Try.checked) own started (by kernel_rfl) Try.func7
    (ChangeSpec.witness6 (enc := enc) (C := Try.checked) false ⟨#[], #[.slice none 0 0, .slice none 0 0, .agg #[.int .i64 0, .int .i64 0, .int .i64 0], .slice none 0 0, .int .i64 0, .int .i64 0], []⟩ 8 (by kernel_rfl) (by kernel_rfl) (by kernel_rfl) (by kernel_rfl)) ?_
  intro W base args ds gs before hval0 hW _ _
  have hval : ∀ (j : Nat) t v, Try.f7.params[j]? = some t → args[j]? = some v → Value.okWide Try.prog W .any base t v := hval0
  have hW' := hW
  obtain ⟨p, q, hA0, hV, rfl, _, _⟩ := hW
  have hA : DataW.TrodAll enc Try.prog W 0 (fun _ => true) true Try.f7.params.toList args.toList ds p := hA0
  rw [Try.params7] at hA hval
  obtain ⟨v0, vs0, d0, ds0, p0, q0, hargs, rfl, rfl, h0, r0⟩ := trodAll_cons hA
  obtain ⟨v1, vs1, d1, ds1, p1, q1, rfl, rfl, rfl, h1, r1⟩ := trodAll_cons r0
  obtain ⟨v2, vs2, d2, ds2, p2, q2, rfl, rfl, rfl, h2, r2⟩ := trodAll_cons r1
  obtain ⟨v3, vs3, d3, ds3, p3, q3, rfl, rfl, rfl, h3, r3⟩ := trodAll_cons r2
  obtain ⟨v4, vs4, d4, ds4, p4, q4, rfl, rfl, rfl, h4, r4⟩ := trodAll_cons r3
  obtain ⟨v5, vs5, d5, ds5, p5, q5, rfl, rfl, rfl, h5, r5⟩ := trodAll_cons r4
  obtain ⟨rfl, rfl, rfl⟩ := trodAll_nil r5
  obtain rfl : args = #[v0, v1, v2, v3, v4, v5] := by cases args; simp_all
  obtain ⟨rfl, rfl⟩ := trodVars_none hV
  obtain ⟨b0, hs0, hw0⟩ := int_list Try.underlying35 Try.underlying3 (by kernel_rfl) (hval 0 35 v0 rfl rfl) h0
  obtain ⟨b1, hs1, hw1⟩ := opT26.list Try.underlying24 (hval 1 24 v1 rfl rfl) h1
  obtain ⟨b2, ⟨cs2, rfl, hc2⟩, hw2⟩ := opT23.agg Try.underlying23 (hval 2 23 v2 rfl rfl) h2
  obtain rfl : cs2 = (Flat.enc b2).toArray := by rw [← (show cs2.toList = Flat.enc b2 from hc2)]
  obtain ⟨b3, hs3, hw3⟩ := opT33.list Try.underlying27 (hval 3 27 v3 rfl rfl) h3
  obtain ⟨b4, rfl, rfl, rfl, wf4⟩ := open_int Try.underlying3 (hval 4 3 v4 rfl rfl) h4
  obtain ⟨b5, rfl, rfl, rfl, wf5⟩ := open_int Try.underlying3 (hval 5 3 v5 rfl rfl) h5
  clear hA0 hval0
  simp only [List.append_nil] at hW'
  refine Calls.mono (law18_CutExact_ok (CutExact_true b0 b1 b2 b3 b4 b5) hs0 hs1 hs3) fun e W' ⟨u, he, hu, hm⟩ => ?_
  subst he; subst hu
  have hb := below_of_mem hm
  exact ⟨_, rfl, post_below (pa := (p0 ++ (p1 ++ (p2 ++ (p3 ++ ([] ++ ([] ++ []))))))) (pv := []) hW' (fun _ _ _ => (trodAll_cons_mk (shut_bool Try.underlying4 _) trodAll_mk0)) (trodAll_cons_mk (Below.trod laidOut (by kernel_rfl) (of_decide_eq_true (by kernel_rfl)) h0 hb (fun x hx => hW'.lt x (by simp [hx]))) (trodAll_cons_mk (Below.trod laidOut (by kernel_rfl) (of_decide_eq_true (by kernel_rfl)) h1 hb (fun x hx => hW'.lt x (by simp [hx]))) (trodAll_cons_mk (Below.trod laidOut (by kernel_rfl) (of_decide_eq_true (by kernel_rfl)) h2 hb (fun x hx => hW'.lt x (by simp [hx]))) (trodAll_cons_mk (Below.trod laidOut (by kernel_rfl) (of_decide_eq_true (by kernel_rfl)) h3 hb (fun x hx => hW'.lt x (by simp [hx]))) (trodAll_cons_mk (shut_int Try.underlying3 wf4) (trodAll_cons_mk (shut_int Try.underlying3 wf5) trodAll_mk0)))))) rfl (by simp) hb⟩

theorem proved : Rows.CutExactSaid :=
  OpenClaim.holds_of_wide 7 Try.f7 rfl rfl rfl rfl rfl rfl rfl ⟨rfl, rfl, rfl, rfl, rfl⟩ rfl rfl rfl rfl rfl (by kernel_rfl) Try.func7 (by kernel_rfl)
    (of_decide_eq_true (by kernel_rfl)) (by unfold Func.isWrapper; first | (rw [if_pos (by decide +kernel)]; kernel_rfl) | (rw [if_neg (by decide +kernel)]; exact ⟨rfl, rfl⟩))
    (fun os started H enc _ => lifted os started H enc)
#print axioms proved
end Go.Proofs.Ytiffggmeebajpaa.cutExact
