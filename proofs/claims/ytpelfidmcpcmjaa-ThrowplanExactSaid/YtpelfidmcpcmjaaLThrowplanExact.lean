/- The results of both functions, or their errors, for made, spoiled and arbitrary spans, times, sides and commands; no condition. -/
import Derived.Test.YtpelfidmcpcmjaaRows
import Derived.Test.YtpelfidmcpcmjaaLs
import Derived.Test.YtpelfidmcpcmjaaWkc
import Derived.Test.YtpelfidmcpcmjaaPlr
import Derived.WalkKit
import Derived.ProofKit
import Derived.OpenShut
namespace Go.Proofs.Ytpelfidmcpcmjaa.throwplanExact
open Go.ChangeShapes Go.WideShapes Go.ChangeAt Go.RowKit Go.Gv

theorem own : ownKnob Try.prog.godebug = none := by kernel_rfl
theorem laidOut : laidOutB Try.prog = true := by kernel_rfl

theorem opT3 : OpenT Try.prog 3 Int in64P := openT_i64 Try.underlying3 (by kernel_rfl)

theorem opT52 : OpenT Try.prog 52 T_Span (fun x => (in64P x.Element) ∧ (in64P x.Side) ∧ (in64P x.From) ∧ (in64P x.To)) := ⟨fun {_ _ _ _ cs _} h => by
    obtain ⟨hl, hf⟩ := field_cs Try.underlying52 h
    obtain ⟨n0, z0, q0⟩ := hf 0 _ rfl
    obtain ⟨x0, e0, o0⟩ := opT3.op q0
    have d0 := drop_split (k' := 1) (by kernel_rfl) e0
    have d0 : cs.drop 0 = Flat.enc x0 ++ cs.drop 1 := d0
    obtain ⟨n1, z1, q1⟩ := hf 1 _ rfl
    obtain ⟨x1, e1, o1⟩ := opT3.op q1
    have d1 := drop_split (k' := 1) (by kernel_rfl) e1
    have d1 : cs.drop 1 = Flat.enc x1 ++ cs.drop 2 := d1
    obtain ⟨n2, z2, q2⟩ := hf 2 _ rfl
    obtain ⟨x2, e2, o2⟩ := opT3.op q2
    have d2 := drop_split (k' := 1) (by kernel_rfl) e2
    have d2 : cs.drop 2 = Flat.enc x2 ++ cs.drop 3 := d2
    obtain ⟨n3, z3, q3⟩ := hf 3 _ rfl
    obtain ⟨x3, e3, o3⟩ := opT3.op q3
    have d3 := drop_split (k' := 1) (by kernel_rfl) e3
    have d3 : cs.drop 3 = Flat.enc x3 ++ cs.drop 4 := d3
    refine ⟨T_Span.mk x0 x1 x2 x3, ?_, ⟨o0, o1, o2, o3⟩⟩
    have hn : cs.length = 4 := hl.trans (by kernel_rfl)
    have e : cs = cs.drop 0 := rfl
    rw [d0, d1, d2, d3, List.drop_of_length_le (by omega)] at e
    exact e, by kernel_rfl, by decide⟩

theorem opT34 : OpenT Try.prog 34 (List (T_Span)) (fun x => ∀ y34 ∈ x, (in64P y34.Element) ∧ (in64P y34.Side) ∧ (in64P y34.From) ∧ (in64P y34.To)) := openT_list opT52 Try.underlying34 (by kernel_rfl)

theorem opT38 : OpenT Try.prog 38 T_Throw (fun x => (in64P x.Element) ∧ (in64P x.Side)) := ⟨fun {_ _ _ _ cs _} h => by
    obtain ⟨hl, hf⟩ := field_cs Try.underlying38 h
    obtain ⟨n0, z0, q0⟩ := hf 0 _ rfl
    obtain ⟨x0, e0, o0⟩ := opT3.op q0
    have d0 := drop_split (k' := 1) (by kernel_rfl) e0
    have d0 : cs.drop 0 = Flat.enc x0 ++ cs.drop 1 := d0
    obtain ⟨n1, z1, q1⟩ := hf 1 _ rfl
    obtain ⟨x1, e1, o1⟩ := opT3.op q1
    have d1 := drop_split (k' := 1) (by kernel_rfl) e1
    have d1 : cs.drop 1 = Flat.enc x1 ++ cs.drop 2 := d1
    refine ⟨T_Throw.mk x0 x1, ?_, ⟨o0, o1⟩⟩
    have hn : cs.length = 2 := hl.trans (by kernel_rfl)
    have e : cs = cs.drop 0 := rfl
    rw [d0, d1, List.drop_of_length_le (by omega)] at e
    exact e, by kernel_rfl, by decide⟩

theorem opT41 : OpenT Try.prog 41 T_Command (fun x => (in64P x.Time) ∧ (in64P x.Element) ∧ (in64P x.Side) ∧ (in64P x.Cut)) := ⟨fun {_ _ _ _ cs _} h => by
    obtain ⟨hl, hf⟩ := field_cs Try.underlying41 h
    obtain ⟨n0, z0, q0⟩ := hf 0 _ rfl
    obtain ⟨x0, e0, o0⟩ := opT3.op q0
    have d0 := drop_split (k' := 1) (by kernel_rfl) e0
    have d0 : cs.drop 0 = Flat.enc x0 ++ cs.drop 1 := d0
    obtain ⟨n1, z1, q1⟩ := hf 1 _ rfl
    obtain ⟨x1, e1, o1⟩ := opT3.op q1
    have d1 := drop_split (k' := 1) (by kernel_rfl) e1
    have d1 : cs.drop 1 = Flat.enc x1 ++ cs.drop 2 := d1
    obtain ⟨n2, z2, q2⟩ := hf 2 _ rfl
    obtain ⟨x2, e2, o2⟩ := opT3.op q2
    have d2 := drop_split (k' := 1) (by kernel_rfl) e2
    have d2 : cs.drop 2 = Flat.enc x2 ++ cs.drop 3 := d2
    obtain ⟨n3, z3, q3⟩ := hf 3 _ rfl
    obtain ⟨x3, e3, o3⟩ := opT3.op q3
    have d3 := drop_split (k' := 1) (by kernel_rfl) e3
    have d3 : cs.drop 3 = Flat.enc x3 ++ cs.drop 4 := d3
    refine ⟨T_Command.mk x0 x1 x2 x3, ?_, ⟨o0, o1, o2, o3⟩⟩
    have hn : cs.length = 4 := hl.trans (by kernel_rfl)
    have e : cs = cs.drop 0 := rfl
    rw [d0, d1, d2, d3, List.drop_of_length_le (by omega)] at e
    exact e, by kernel_rfl, by decide⟩

set_option maxRecDepth 100000 in
theorem lifted (os : Os) (started : os.Started) (H : Type) (enc : TypeId × Value → H) :
    ReturnsInHanded {} Try.checked os 3 .any (Rows.throwplanExactSpec.pre6 enc Try.prog Try.f3 Rows.throwplanExactRow.domain false) (Rows.throwplanExactSpec.post enc Try.prog Try.f3 false true false false) := by
  refine returnsInHanded_of_change_sized (C := Try.checked) own started (by kernel_rfl) Try.func3
    (ChangeSpec.witness6 (enc := enc) (C := Try.checked) false ⟨#[], #[.slice none 0 0, .slice none 0 0, .slice none 0 0, .slice none 0 0, .slice none 0 0], []⟩ 8 (by kernel_rfl) (by kernel_rfl) (by kernel_rfl) (by kernel_rfl)) ?_
  intro W base args ds gs before hval0 hW _ hsz _
  have hval : ∀ (j : Nat) t v, Try.f3.params[j]? = some t → args[j]? = some v → Value.okWide Try.prog W .any base t v := hval0
  have hW' := hW
  obtain ⟨p, q, hA0, hV, rfl, _, _⟩ := hW
  have hA : DataW.TrodAll enc Try.prog W 0 (fun _ => true) true Try.f3.params.toList args.toList ds p := hA0
  rw [Try.params3] at hA hval
  obtain ⟨v0, vs0, d0, ds0, p0, q0, hargs, rfl, rfl, h0, r0⟩ := trodAll_cons hA
  obtain ⟨v1, vs1, d1, ds1, p1, q1, rfl, rfl, rfl, h1, r1⟩ := trodAll_cons r0
  obtain ⟨v2, vs2, d2, ds2, p2, q2, rfl, rfl, rfl, h2, r2⟩ := trodAll_cons r1
  obtain ⟨v3, vs3, d3, ds3, p3, q3, rfl, rfl, rfl, h3, r3⟩ := trodAll_cons r2
  obtain ⟨v4, vs4, d4, ds4, p4, q4, rfl, rfl, rfl, h4, r4⟩ := trodAll_cons r3
  obtain ⟨rfl, rfl, rfl⟩ := trodAll_nil r4
  obtain rfl : args = #[v0, v1, v2, v3, v4] := by cases args; simp_all
  obtain ⟨rfl, rfl⟩ := trodVars_none hV
  obtain ⟨b0, hs0, hw0, hn0⟩ := int_list2 Try.underlying22 Try.underlying3 (by kernel_rfl) (hval 0 22 v0 rfl rfl) h0
  have hl0 := len_of (t := 22) (d := d0) hsz 0 (by kernel_rfl) rfl Try.underlying22 (by kernel_rfl) hn0
  obtain ⟨b1, hs1, hw1⟩ := opT34.list Try.underlying23 (hval 1 23 v1 rfl rfl) h1
  obtain ⟨b2, hs2, hw2, hn2⟩ := int_list2 Try.underlying22 Try.underlying3 (by kernel_rfl) (hval 2 22 v2 rfl rfl) h2
  have hl2 := len_of (t := 22) (d := d2) hsz 2 (by kernel_rfl) rfl Try.underlying22 (by kernel_rfl) hn2
  obtain ⟨b3, hs3, hw3⟩ := opT38.list Try.underlying24 (hval 3 24 v3 rfl rfl) h3
  obtain ⟨b4, hs4, hw4⟩ := opT41.list Try.underlying25 (hval 4 25 v4 rfl rfl) h4
  clear hA0 hval0
  simp only [List.append_nil] at hW'
  refine Calls.mono (law24_ThrowplanExact_ok (ThrowplanExact_sized b0 b1 b2 b3 b4 hl0 hl2) hs0 hs1 hs2 hs3 hs4) fun e W' ⟨u, he, hu, hm⟩ => ?_
  subst he; subst hu
  have hb := below_of_mem hm
  exact ⟨_, rfl, post_below (pa := (p0 ++ (p1 ++ (p2 ++ (p3 ++ (p4 ++ [])))))) (pv := []) hW' (fun _ _ _ => (trodAll_cons_mk (shut_bool Try.underlying4 _) trodAll_mk0)) (trodAll_cons_mk (Below.trod laidOut (by kernel_rfl) (of_decide_eq_true (by kernel_rfl)) h0 hb (fun x hx => hW'.lt x (by simp [hx]))) (trodAll_cons_mk (Below.trod laidOut (by kernel_rfl) (of_decide_eq_true (by kernel_rfl)) h1 hb (fun x hx => hW'.lt x (by simp [hx]))) (trodAll_cons_mk (Below.trod laidOut (by kernel_rfl) (of_decide_eq_true (by kernel_rfl)) h2 hb (fun x hx => hW'.lt x (by simp [hx]))) (trodAll_cons_mk (Below.trod laidOut (by kernel_rfl) (of_decide_eq_true (by kernel_rfl)) h3 hb (fun x hx => hW'.lt x (by simp [hx]))) (trodAll_cons_mk (Below.trod laidOut (by kernel_rfl) (of_decide_eq_true (by kernel_rfl)) h4 hb (fun x hx => hW'.lt x (by simp [hx]))) trodAll_mk0))))) rfl (by simp) hb⟩

theorem proved : Rows.ThrowplanExactSaid :=
  OpenClaim.holds_of_wide 3 Try.f3 rfl rfl rfl rfl rfl rfl rfl ⟨rfl, rfl, rfl, rfl, rfl⟩ rfl rfl rfl rfl rfl (by kernel_rfl) Try.func3 (by kernel_rfl)
    (of_decide_eq_true (by kernel_rfl)) (by unfold Func.isWrapper; first | (rw [if_pos (by decide +kernel)]; kernel_rfl) | (rw [if_neg (by decide +kernel)]; exact ⟨rfl, rfl⟩))
    (fun os started H enc _ => lifted os started H enc)
#print axioms proved
end Go.Proofs.Ytpelfidmcpcmjaa.throwplanExact
