/- Throwing (chapter 24): ThrowplanExact. -/
import Derived.Test.YtpelfidmcpcmjaaPlp
namespace Go.Gv
theorem obx {α β : Type} {m : Option α} {f : α → Option β} {x : α} {Q : β → Prop} (h : m = some x) (k : ∃ b, f x = some b ∧ Q b) : ∃ b, Option.bind m f = some b ∧ Q b := by subst h; exact k
theorem oitx {α : Type} {b : Bool} {x y : Option α} {Q : α → Prop} (h : b = true) (k : ∃ r, x = some r ∧ Q r) : ∃ r, (bif b then x else y) = some r ∧ Q r := by subst h; exact k
theorem oifx {α : Type} {b : Bool} {x y : Option α} {Q : α → Prop} (h : b = false) (k : ∃ r, y = some r ∧ Q r) : ∃ r, (bif b then x else y) = some r ∧ Q r := by subst h; exact k
theorem obe {α β : Type} {m : Option α} {f : α → Option β} {P : α → Prop} {Q : β → Prop} (h : ∃ a, m = some a ∧ P a) (g : ∀ a, P a → ∃ b, f a = some b ∧ Q b) : ∃ b, Option.bind m f = some b ∧ Q b := by
  obtain ⟨a, rfl, h⟩ := h
  exact g a h
theorem Commands_time {N : Nat} (hN : 2000 ≤ N) {l : List (List T_Span)} {r : List Int} {th : Int} {st : List T_Throw} (hr : r.length < N) (hr2 : r.length ≤ 17592186044416) :
    ∃ q, throwplan_Commands N l r th st = some q ∧ r24_Commands N l r th st = some q ∧ q.1.length ≤ 1024 ∧ ∀ x ∈ q.1, 0 ≤ x.Time ∧ x.Time ≤ 1000000000 := by
  obtain ⟨q, h1, h2, h3⟩ := Commands_both (l := l) (th := th) (st := st) hN hr hr2
  refine ⟨q, h1, h2, h3, ?_⟩
  by_cases hck : ¬ ck24 l r th st = 0
  · have : throwplan_Commands N l r th st = some ([], ck24 l r th st) := by
      unfold throwplan_Commands
      exact obi (check_eq hN l r th st) (oit (bnotIt (decide_eq_false hck)) rfl)
    rw [this] at h1
    injection h1 with h1
    rw [← h1]; simp
  · have hck := Classical.not_not.1 hck
    have v := v24 hck
    rcases Commands_eq hN v hck with ⟨e, _, _, a3⟩ | ⟨made, out, a1, a2, a3, a4, a5, a6⟩
    · rw [a3] at h1
      injection h1 with h1
      rw [← h1]; simp
    · rw [a3] at h1
      injection h1 with h1
      rw [← h1]
      exact fun x hx => allO_mem v _ (fun k h => by simpa using h) a1 (fun x h => by simp at h) x (a5.mem.1 hx)
/-- times that are spoiled -/
theorem spoil7 {N : Nat} (hN : 2000 ≤ N) (t : List Int) {k : Int} (h0 : 0 ≤ k) (h1 : k ≤ 200000) {q : List Int} (hq : q.length ≤ 8) (hb : ∀ p, p < q.length → -2000000 ≤ rk q p ∧ rk q p ≤ 2000000) :
    ∃ r, iterN (fun s : Int × Int × List Int => law24_ThrowplanExact_l7 N t s.1 s.2.1 s.2.2) N (0, k, q) = some r ∧ k ≤ r.1 ∧ r.1 ≤ k + 20 ∧ r.2.length ≤ 8 := by
  refine runN (f := fun s : Int × Int × List Int => law24_ThrowplanExact_l7 N t s.1 s.2.1 s.2.2) q.length
    (fun i s => s.1 = i ∧ (k ≤ s.2.1 ∧ s.2.1 ≤ k + 2 * i) ∧ s.2.2.length = q.length ∧ ∀ p, p < q.length → -2000000 ≤ rk s.2.2 p ∧ rk s.2.2 p ≤ 2000000) _ ?_ ?_ N (by omega) (0, k, q) ⟨rfl, ⟨Int.le_refl _, by simp⟩, rfl, hb⟩
  · rintro i ⟨i', p, r⟩ hi ⟨rfl, ⟨p0, p1⟩, hl, hb⟩
    simp only at p0 p1 hl hb ⊢
    left
    have hbi := hb i hi
    obtain ⟨a, ha, a0, a1⟩ := next_ok N t (k := p) (n := 9000) (by omega) (by omega) (by omega) (by omega)
    have er : idx r (i : Int) = some (rk r i) := idx_rk (by omega)
    have er2 : ∀ x, idx (List.set r (Int.toNat (i : Int)) x) (i : Int) = some x := fun x => by
      rw [Int.toNat_natCast, idx_rk (by simp; omega), rk_set (by omega), if_pos rfl]
    unfold law24_ThrowplanExact_l7
    by_cases hi0 : 0 < i
    · have hbp := hb (i - 1) (by omega)
      obtain ⟨b, hb2, b0, b1⟩ := next_ok N t (k := p + 1) (n := 2) (by omega) (by omega) (by omega) (by omega)
      have er3 : ∀ x, idx (List.set r (Int.toNat (i : Int)) x) ((i - 1 : Nat) : Int) = some (rk r (i - 1)) := fun x => by
        rw [Int.toNat_natCast, idx_rk (by simp; omega), rk_set (by omega), if_neg (by omega)]
      refine ⟨_, oit (decide_eq_true (by omega)) (obi er (obi ha (obi (in64_ok (by simp only; omega)) (obi er (oit (decide_eq_true (by omega)) (obi (er2 _) (obi (sub1 hi0 (by omega)) (obi (er3 _) (obi hb2 (obi (in64_ok (by simp only; omega)) (obi (er2 _) (obi (inc_nat (by omega)) rfl)))))))))))), rfl, ⟨by simp only; omega, by simp only; omega⟩, by simp only [List.length_set]; exact hl, fun q' hq' => ?_⟩
      simp only [Int.toNat_natCast]
      rw [rk_set (by simp; omega), rk_set (by omega)]
      by_cases e : q' = i
      · rw [if_pos e]; omega
      · rw [if_neg e, if_neg e]; exact hb q' hq'
    · refine ⟨_, oit (decide_eq_true (by omega)) (obi er (obi ha (obi (in64_ok (by simp only; omega)) (obi er (oif (decide_eq_false (by omega)) (obi (inc_nat (by omega)) rfl)))))), rfl, ⟨by simp only; omega, by simp only; omega⟩, by simp only [List.length_set]; exact hl, fun q' hq' => ?_⟩
      simp only [Int.toNat_natCast]
      rw [rk_set (by omega)]
      by_cases e : q' = i
      · rw [if_pos e]; omega
      · rw [if_neg e]; exact hb q' hq'
  · rintro ⟨i', p, r⟩ ⟨rfl, ⟨p0, p1⟩, hl, hb⟩
    simp only at p0 p1 hl
    exact ⟨_, oif (decide_eq_false (by simp only [hl]; omega)) rfl, p0, by simp only; omega, by simp only; omega⟩
end Go.Gv
