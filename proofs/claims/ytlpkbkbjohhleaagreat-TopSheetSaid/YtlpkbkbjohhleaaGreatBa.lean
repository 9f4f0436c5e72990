/- A small calculus over the model's step rules: environments, control, regions. Program-independent. -/
import Derived.WalkKit
import Derived.WalkSpells
import Derived.OrdersHeld
import Derived.Test.YtlpkbkbjohhleaaGreatPu
namespace Go.Gv
open Go.RowKit

abbrev Env := List (Nat × Value)

def get : List (Nat × Value) → Nat → Option Value
  | [], _ => none
  | h :: r, t => bif Nat.beq h.1 t then some h.2 else get r t

def evo (env : Env) : Operand → Option Value
  | .tmp t => get env t
  | .const v => some v
  | .global g => some (.pointer (some ⟨g, 0, none⟩))
  | .func f => some (.func (.func f) #[] #[])

structure Agree (n : Nat) (env : Env) (a : Act) : Prop where
  defers : a.defers = []
  size : a.tmps.size = n
  val : ∀ t v, get env t = some v → a.tmps.getD t undef = v

theorem Agree.eval {n : Nat} {env : Env} {a : Act} (h : Agree n env a) {x : Operand} {v : Value} (hx : evo env x = some v) : a.eval x = v := by
  cases x with
  | tmp t => exact h.val t v hx
  | const u => simpa [evo, Act.eval] using hx
  | global g => simpa [evo, Act.eval] using hx
  | func f => simpa [evo, Act.eval] using hx

theorem Agree.put {n : Nat} {env : Env} {a : Act} (h : Agree n env a) {d : Nat} (hd : Nat.blt d n = true) (v : Value) : Agree n ((d, v) :: env) (a.put (some d) v) := by
  have hd' : d < n := Nat.le_of_ble_eq_true hd
  refine ⟨h.defers, by simp [Act.put, h.size], fun t u hu => ?_⟩
  simp only [get] at hu
  by_cases e : d = t
  · subst e
    simp at hu
    subst hu
    simp [Act.put, Array.getD, h.size, hd']
  · have hb : Nat.beq d t = false := by
      cases hq : Nat.beq d t
      · rfl
      · exact absurd (Nat.eq_of_beq_eq_true hq) e
    rw [hb] at hu
    have := h.val t u hu
    rw [← this]
    simp only [Act.put, Array.getD]
    by_cases ht : t < a.tmps.size
    · simp [ht, e]
    · simp [ht]

/-- What the bindings of an environment say of another one. -/
def Sub (env' env : Env) : Prop := ∀ t v, get env' t = some v → get env t = some v
theorem Sub.agree {n : Nat} {env env' : Env} {a : Act} (hs : Sub env' env) (h : Agree n env a) : Agree n env' a :=
  ⟨h.defers, h.size, fun t v hv => h.val t v (hs t v hv)⟩
theorem Sub.nil (env : Env) : Sub [] env := fun _ _ h => by cases h
theorem Sub.cons {env env' : Env} {k : Nat} {v : Value} (h : get env k = some v) (hs : Sub env' env) : Sub ((k, v) :: env') env := by
  intro t u hu
  simp only [get] at hu
  cases hb : Nat.beq k t
  · rw [hb] at hu; exact hs t u hu
  · rw [hb] at hu
    have := Nat.eq_of_beq_eq_true hb
    subst this
    simp at hu
    subst hu
    exact h

def lift (n : Nat) (Q : Exit → Env → World → Prop) : Exit → Act → World → Prop := fun e a w => ∃ env, Agree n env a ∧ Q e env w

def CW (P : Program) (n : Nat) (c : Code) (Q : Exit → Env → World → Prop) (env : Env) (w : World) : Prop := ∀ a, Agree n env a → c.wp P (lift n Q) a w

def thenQ (N : Env → World → Prop) (Q : Exit → Env → World → Prop) : Exit → Env → World → Prop
  | .normal, e, w => N e w
  | x, e, w => Q x e w

def blockQ (id : Nat) (Q : Exit → Env → World → Prop) : Exit → Env → World → Prop
  | .exit id', e, w => bif Nat.beq id' id then Q .normal e w else Q (.exit id') e w
  | x, e, w => Q x e w

section
variable {P : Program} {n : Nat} {Q : Exit → Env → World → Prop} {env env' : Env} {w : World} {x y c : Code}

theorem cw_sub (hs : Sub env' env) (h : CW P n c Q env' w) : CW P n c Q env w := fun a ha => h a (hs.agree ha)

theorem cw_mono {Q' : Exit → Env → World → Prop} (hq : ∀ e env w, Q' e env w → Q e env w) (h : CW P n c Q' env w) : CW P n c Q env w :=
  fun a ha => wp_mono (h a ha) fun _ _ _ ⟨env, hag, hh⟩ => ⟨env, hag, hq _ _ _ hh⟩

theorem cw_seq (h : CW P n x (thenQ (CW P n y Q) Q) env w) : CW P n (x.seq y) Q env w := fun a ha =>
  wp_seq (wp_mono (h a ha) fun e a' w' hh => by
    obtain ⟨env, hag, hq⟩ := hh
    cases e with
    | normal => exact hq a' hag
    | _ => exact ⟨env, hag, hq⟩)

theorem cw_block {id : Nat} (h : CW P n c (blockQ id Q) env w) : CW P n (.block id c) Q env w := fun a ha =>
  wp_block (wp_mono (h a ha) fun e a' w' hh => by
    obtain ⟨env, hag, hq⟩ := hh
    cases e with
    | exit id' =>
      simp only [Exit.inBlock]
      simp only [blockQ] at hq
      by_cases e : id' = id
      · subst e
        simp at hq
        simp only [if_true]
        exact ⟨env, hag, hq⟩
      · have hb : Nat.beq id' id = false := by
          cases hq : Nat.beq id' id
          · rfl
          · exact absurd (Nat.eq_of_beq_eq_true hq) e
        rw [hb] at hq
        rw [if_neg e]
        exact ⟨env, hag, hq⟩
    | _ => exact ⟨env, hag, hq⟩)

theorem cw_skip (h : Q .normal env w) : CW P n .skip Q env w := fun _ ha => wp_skip ⟨env, ha, h⟩
theorem cw_exit {id : Nat} (h : Q (.exit id) env w) : CW P n (.exit id) Q env w := fun _ ha => wp_exit ⟨env, ha, h⟩
theorem cw_ret (h : Q .ret env w) : CW P n .ret Q env w := fun _ ha => wp_ret ⟨env, ha, h⟩
theorem cw_t {o : Operand} {b : Bool} (hv : evo env o = some (.bool b)) (hb : b = true) (h : CW P n x Q env w) : CW P n (.cond o x y) Q env w := fun a ha =>
  wp_cond_true (by rw [ha.eval hv, hb]) (h a ha)
theorem cw_f {o : Operand} {b : Bool} (hv : evo env o = some (.bool b)) (hb : b = false) (h : CW P n y Q env w) : CW P n (.cond o x y) Q env w := fun a ha =>
  wp_cond_false (by rw [ha.eval hv, hb]) (h a ha)
end

theorem wp_loop_ind {P : Program} {c : Code} {Q : Exit → Act → World → Prop} (I : Nat → Act → World → Prop)
    (round : ∀ k a w, I k a w → c.wp P (Exit.then (fun a' w' => ∃ k', k' < k ∧ I k' a' w') Q) a w) : ∀ k a w, I k a w → (Code.loop c).wp P Q a w := by
  intro n a w hI b k cs
  have key : ∀ n a w, I n a w → ∃ e a' w', Q e a' w' ∧ Arrives P (lone (b.at a (.code c :: .inLoop c :: k)) cs w) b k cs e a' w' := by
    intro n
    induction n using Nat.strongRecOn with
    | _ n ih =>
      intro a w hI
      obtain ⟨e, a₁, w₁, hq, harr⟩ := round n a w hI b (.inLoop c :: k) cs
      cases e with
      | normal =>
        obtain ⟨m, hlt, hI₁⟩ := hq
        obtain ⟨e₂, a₂, w₂, hq₂, harr₂⟩ := ih m hlt a₁ w₁ hI₁
        exact ⟨e₂, a₂, w₂, hq₂, .of_steps (Steps.trans harr (.one step_inLoop)) harr₂⟩
      | exit id => exact ⟨_, a₁, w₁, hq, .pass (x := .inLoop c) rfl (fun _ _ => .inl (by simp)) harr⟩
      | goto l => exact ⟨_, a₁, w₁, hq, .pass (x := .inLoop c) rfl (fun _ _ => .inl (by simp)) harr⟩
      | ret => exact ⟨_, a₁, w₁, hq, .pass (x := .inLoop c) rfl (fun _ _ => .inl (by simp)) harr⟩
      | panic ch => exact ⟨_, a₁, w₁, hq, .pass (x := .inLoop c) rfl (fun _ _ => .inl (by simp)) harr⟩
      | outgrown => exact ⟨_, a₁, w₁, hq, .pass (x := .inLoop c) rfl (fun _ _ => .inl (by simp)) harr⟩
  obtain ⟨e, a', w', hq, harr⟩ := key _ a w hI
  exact ⟨e, a', w', hq, .of_steps (.one step_loop) harr⟩

theorem cw_loop {P : Program} {n : Nat} {c : Code} {Q : Exit → Env → World → Prop} {env : Env} {w : World} {σ ρ : Type} {f : σ → Option (σ ⊕ ρ)} {N : Nat} {s : σ} {r : ρ}
    (I : σ → Env → World → Prop) (h : iterN f N s = some r) (h0 : I s env w)
    (round : ∀ s x env w, f s = some x → (∀ r', x = .inr r' → r' = r) → I s env w → CW P n c (thenQ (fun env' w' => ∃ s', x = .inl s' ∧ I s' env' w') Q) env w) :
    CW P n (.loop c) Q env w := by
  intro a ha
  refine wp_loop_ind (Q := lift n Q) (fun k a w => ∃ s env, iterN f k s = some r ∧ Agree n env a ∧ I s env w) ?_ N a w ⟨s, env, h, ha, h0⟩
  rintro k a w ⟨s, env, hk, hag, hI⟩
  cases k with
  | zero => simp [iterN] at hk
  | succ k =>
    simp only [iterN] at hk
    cases hf : f s with
    | none => simp [hf] at hk
    | some x =>
      have hr : ∀ r', x = .inr r' → r' = r := by
        rintro r' rfl
        simpa [hf] using hk
      refine wp_mono (round s x env w hf hr hI a hag) fun e a' w' hh => ?_
      obtain ⟨env', hag', hq⟩ := hh
      cases e with
      | normal =>
        obtain ⟨s', rfl, hI'⟩ := hq
        simp only [hf] at hk
        exact ⟨k, by omega, s', env', hk, hag', hI'⟩
      | _ => exact ⟨env', hag', hq⟩

/-! Regions -/
section
variable {P : Program} {n : Nat} {ops : Array Oper} {Q : Exit → Env → World → Prop} {env : Env} {w : World}

def RWt (P : Program) (n : Nat) (ops : Array Oper) (Q : Exit → Env → World → Prop) (l : List Oper) (env : Env) (w : World) : Prop :=
  ∀ a, Agree n env a → wpList P ops (lift n Q) l a w

theorem cw_region {id : Nat} {l : List Oper} (h : RWt P n l.toArray Q l env w) : CW P n (.region id l.toArray false) Q env w := fun a ha => wp_region_lit (h a ha)
theorem rwt_nil (h : Q .normal env w) : RWt P n ops Q [] env w := fun _ ha => wpList_nil ⟨env, ha, h⟩

/-- An operation that yields v and leaves the world alone. -/
def Rd (P : Program) (n : Nat) (env : Env) (o : Oper) (w : World) (v : Value) : Prop := ∀ a, Agree n env a → (execOp a.eval o).run P w = .ok (.value v) w

/-- An operation that yields a value and a world of which R holds. -/
def Ef (P : Program) (n : Nat) (env : Env) (o : Oper) (w : World) (R : Value → World → Prop) : Prop :=
  ∀ a, Agree n env a → ∀ (next : Act → World → Prop) (Q : Exit → Act → World → Prop), (∀ v w', R v w' → next (a.put o.dst v) w') → o.wp P a w next Q

theorem Rd.ef {o : Oper} {v : Value} (h : Rd P n env o w v) : Ef P n env o w (fun u w' => u = v ∧ w' = w) := fun a ha next Q hn => by
  unfold Oper.wp
  rw [h a ha]
  exact hn v w ⟨rfl, rfl⟩

theorem Ef.mono {o : Oper} {R R' : Value → World → Prop} (h : Ef P n env o w R) (hr : ∀ v w', R v w' → R' v w') : Ef P n env o w R' := fun a ha next Q hn => h a ha next Q fun v w' hR => hn v w' (hr v w' hR)

variable {d : Nat} {op : Op} {ty : TypeId} {pos : String} {after : Array Edge} {rest : List Oper}

theorem t_ef {R : Value → World → Prop} (hd : Nat.blt d n = true) (h : Ef P n env ⟨some d, op, ty, pos, after, none⟩ w R)
    (K : ∀ v w', R v w' → RWt P n ops Q rest ((d, v) :: env) w') : RWt P n ops Q (⟨some d, op, ty, pos, after, none⟩ :: rest) env w := fun a ha =>
  wpList_plain rfl fun _ hK => h a ha _ _ fun v w' hR => hK _ _ (K v w' hR _ (ha.put hd v))

theorem t_ef0 {R : Value → World → Prop} (h : Ef P n env ⟨none, op, ty, pos, after, none⟩ w R)
    (K : ∀ v w', R v w' → RWt P n ops Q rest env w') : RWt P n ops Q (⟨none, op, ty, pos, after, none⟩ :: rest) env w := fun a ha =>
  wpList_plain rfl fun _ hK => h a ha _ _ fun v w' hR => hK _ _ (K v w' hR _ ha)

theorem t_rd {v : Value} (hd : Nat.blt d n = true) (h : Rd P n env ⟨some d, op, ty, pos, after, none⟩ w v)
    (K : RWt P n ops Q rest ((d, v) :: env) w) : RWt P n ops Q (⟨some d, op, ty, pos, after, none⟩ :: rest) env w :=
  t_ef hd h.ef (by rintro _ _ ⟨rfl, rfl⟩; exact K)

/-- A guarded value. -/
def gV (g : Bool) (v : Value) : Value := bif g then v else undef
theorem gV_t {g : Bool} {v : Value} (h : g = true) : gV g v = v := by subst h; rfl
theorem gV_f {g : Bool} {v : Value} (h : g = false) : gV g v = undef := by subst h; rfl

def asB : Value → Option Bool
  | .bool b => some b
  | _ => none
/-- g says whether the guard's slot, which holds u, lets the operation run. -/
def GV (u : Value) (want g : Bool) : Prop := asB u = some want ↔ g = true
theorem gv_t (b : Bool) : GV (.bool b) true b := by cases b <;> simp [GV, asB]
theorem gv_f (b : Bool) : GV (.bool b) false (!b) := by cases b <;> simp [GV, asB]
theorem undef_nb (want : Bool) : ¬ (asB undef = some want) := by simp [undef, asB]
theorem gv_nt (g b : Bool) : GV (gV g (.bool b)) true (g && b) := by
  cases g
  · simp only [GV, gV, cond_false, Bool.false_and, Bool.false_eq_true, iff_false]; exact undef_nb _
  · cases b <;> simp [GV, gV, asB]
theorem gv_nf (g b : Bool) : GV (gV g (.bool b)) false (g && !b) := by
  cases g
  · simp only [GV, gV, cond_false, Bool.false_and, Bool.false_eq_true, iff_false]; exact undef_nb _
  · cases b <;> simp [GV, gV, asB]

theorem wanted_of {a : Act} {o : Oper} {j : Nat} {want g : Bool} {t : Nat} {u : Value} (ha : Agree n env a) (ho : o.guard = some (j, want)) (hj : (ops[j]?).bind (·.dst) = some t)
    (ht : Nat.blt t n = true) (hu : get env t = some u) (hg : GV u want g) : Region.wanted o (yielded ops a.tmps) = g := by
  have ht' : t < a.tmps.size := by rw [ha.size]; exact Nat.le_of_ble_eq_true ht
  have hv := ha.val t u hu
  have h1 : yielded ops a.tmps j = asB u := by
    unfold yielded
    rw [hj]
    have : a.tmps[t]? = some u := by
      rw [Array.getElem?_eq_getElem ht']
      simpa [Array.getD, ht'] using hv
    simp only [Option.bind_some, this]
    cases u <;> rfl
  simp only [Region.wanted, ho, h1]
  unfold GV at hg
  cases g
  · simp only [Bool.false_eq_true, iff_false] at hg
    exact beq_eq_false_iff_ne.2 hg
  · exact beq_iff_eq.2 (hg.2 rfl)

theorem t_rdg {v u : Value} {j t : Nat} {want g : Bool} (hd : Nat.blt d n = true) (hj : (ops[j]?).bind (·.dst) = some t) (ht : Nat.blt t n = true) (hu : get env t = some u) (hg : GV u want g)
    (h : g = true → Rd P n env ⟨some d, op, ty, pos, after, some (j, want)⟩ w v)
    (K : RWt P n ops Q rest ((d, gV g v) :: env) w) : RWt P n ops Q (⟨some d, op, ty, pos, after, some (j, want)⟩ :: rest) env w := fun a ha => by
  have hw := wanted_of (ops := ops) (o := ⟨some d, op, ty, pos, after, some (j, want)⟩) ha rfl hj ht hu hg
  refine wpList_step fun Kx hK => ?_
  rw [hw]
  cases g with
  | true => simp only [if_true]; exact (h rfl).ef a ha _ _ (by rintro _ _ ⟨rfl, rfl⟩; exact hK _ _ (K _ (ha.put hd _)))
  | false => simp only [Bool.false_eq_true, if_false]; exact hK _ _ (K _ (ha.put hd _))

theorem t_efg {u : Value} {j t : Nat} {want g : Bool} {R : Value → World → Prop} (hd : Nat.blt d n = true) (hj : (ops[j]?).bind (·.dst) = some t) (ht : Nat.blt t n = true) (hu : get env t = some u) (hg : GV u want g)
    (h : g = true → Ef P n env ⟨some d, op, ty, pos, after, some (j, want)⟩ w R) (h0 : g = false → R undef w)
    (K : ∀ v w', R v w' → RWt P n ops Q rest ((d, v) :: env) w') : RWt P n ops Q (⟨some d, op, ty, pos, after, some (j, want)⟩ :: rest) env w := fun a ha => by
  have hw := wanted_of (ops := ops) (o := ⟨some d, op, ty, pos, after, some (j, want)⟩) ha rfl hj ht hu hg
  refine wpList_step fun Kx hK => ?_
  rw [hw]
  cases g with
  | true => simp only [if_true]; exact h rfl a ha _ _ fun v w' hR => hK _ _ (K v w' hR _ (ha.put hd _))
  | false => simp only [Bool.false_eq_true, if_false]; exact hK _ _ (K _ _ (h0 rfl) _ (ha.put hd _))
end

/-! Regions that draw their order. -/
section
variable {P : Program} {n : Nat} {ops : Array Oper} {md : Region.Mode} {S : World → Prop} {T : Nat → Nat} {Q : Exit → Act → World → Prop}

/-- Whatever order is picked; T: 0: an effect behind which S holds; 1: an effect of the tail; 2: it leaves the world alone. -/
def wpAnyT (P : Program) (md : Region.Mode) (ops : Array Oper) (Q : Exit → Act → World → Prop) (S : World → Prop) (T : Nat → Nat) : Nat → Array Bool → Act → World → Prop
  | 0, listed, a, w => Region.ready md ops listed = [] ∧ Q .normal a w
  | fuel + 1, listed, a, w =>
    (Region.ready md ops listed = [] → Q .normal a w) ∧
    ∀ i ∈ Region.ready md ops listed, wpOp P ops Q i (fun a' w' => ((T i = 0 → S w') ∧ (T i = 2 → w' = w)) ∧ wpAnyT P md ops Q S T fuel (listed.setIfInBounds i true) a' w') a w

theorem wpAny_of_T : ∀ (fuel : Nat) (listed : Array Bool) (a : Act) (w : World), wpAnyT P md ops Q S T fuel listed a w → wpAny P md ops Q fuel listed a w
  | 0, _, _, _, h => h
  | fuel + 1, _, _, _, h => ⟨h.1, fun i hi => wpOp_mono (fun a' w' h' => wpAny_of_T fuel _ a' w' h'.2) (h.2 i hi)⟩

/-- j waits for i, directly or through others. -/
inductive WaitsFor (md : Region.Mode) (ops : Array Oper) (i : Nat) : Nat → Prop where
  | one {j : Nat} {o : Oper} {e : Edge} : ops[j]? = some o → e ∈ o.after → Region.binds md e = true → e.on = i → WaitsFor md ops i j
  | far {j : Nat} {o : Oper} {e : Edge} : ops[j]? = some o → e ∈ o.after → Region.binds md e = true → WaitsFor md ops i e.on → WaitsFor md ops i j
theorem WaitsFor.trans {md : Region.Mode} {ops : Array Oper} {i k j : Nat} (h : WaitsFor md ops k j) (h2 : WaitsFor md ops i k) : WaitsFor md ops i j := by
  induction h with
  | one h1 h3 h4 h5 => subst h5; exact .far h1 h3 h4 h2
  | far h1 h3 h4 _ ih => exact .far h1 h3 h4 ih
/-- forerunners, as bits of a number -/
def predL (md : Region.Mode) : List Edge → Nat → Nat
  | [], m => m
  | e :: l, m => predL md l (bif Region.binds md e then m ||| 2 ^ e.on else m)
theorem predL_spec {md : Region.Mode} {i : Nat} : ∀ {l : List Edge} {m : Nat}, (predL md l m).testBit i = true → m.testBit i = true ∨ ∃ e ∈ l, Region.binds md e = true ∧ e.on = i
  | [], _, h => .inl h
  | e :: l, m, h => by
    rcases predL_spec (l := l) h with h | ⟨e', h1, h2⟩
    · cases hb : Region.binds md e with
      | false => rw [hb] at h; exact .inl h
      | true =>
        rw [hb] at h
        simp only [cond_true, Nat.testBit_or, Bool.or_eq_true, Nat.testBit_two_pow, decide_eq_true_eq] at h
        rcases h with h | h
        · exact .inl h
        · exact .inr ⟨e, List.mem_cons_self, hb, h⟩
    · exact .inr ⟨e', List.mem_cons_of_mem _ h1, h2⟩
def predM (md : Region.Mode) (ops : Array Oper) (k : Nat) : Nat := match ops[k]? with
  | some o => predL md o.after.toList 0
  | none => 0
theorem predM_spec {md : Region.Mode} {ops : Array Oper} {k i : Nat} (h : (predM md ops k).testBit i = true) : WaitsFor md ops i k := by
  unfold predM at h
  split at h
  · rename_i o ho
    rcases predL_spec h with h | ⟨e, h1, h2, h3⟩
    · simp at h
    · exact .one ho (by simpa using h1) h2 h3
  · simp at h
def ancM (md : Region.Mode) (ops : Array Oper) : Nat → Nat → Nat
  | 0, m => m
  | k + 1, m => ancM md ops k (bif m.testBit k then m ||| predM md ops k else m)
theorem ancM_spec {md : Region.Mode} {ops : Array Oper} {j : Nat} : ∀ {k m : Nat}, (∀ i, m.testBit i = true → WaitsFor md ops i j) → ∀ i, (ancM md ops k m).testBit i = true → WaitsFor md ops i j
  | 0, _, h, i, hi => h i hi
  | k + 1, m, h, i, hi => by
    refine ancM_spec (k := k) (m := bif m.testBit k then m ||| predM md ops k else m) (fun q hq => ?_) i hi
    cases hb : m.testBit k with
    | false => rw [hb] at hq; exact h q hq
    | true =>
      rw [hb] at hq
      simp only [cond_true, Nat.testBit_or, Bool.or_eq_true] at hq
      rcases hq with hq | hq
      · exact h q hq
      · exact (h k hb).trans (predM_spec hq)
def waitsB (md : Region.Mode) (ops : Array Oper) (j i : Nat) : Bool := (ancM md ops j (predM md ops j)).testBit i
theorem waitsB_spec {md : Region.Mode} {ops : Array Oper} {j i : Nat} (h : waitsB md ops j i = true) : WaitsFor md ops i j := ancM_spec (fun _ hq => predM_spec hq) i h

def tailWaits (md : Region.Mode) (ops : Array Oper) (T : Nat → Nat) (i : Nat) : Bool :=
  (List.range ops.size).all fun j => !(Nat.beq (T j) 1) || waitsB md ops j i

/-- What is listed has its forerunners listed. -/
def Closed (md : Region.Mode) (ops : Array Oper) (listed : Array Bool) : Prop :=
  ∀ j oj, ops[j]? = some oj → listed.getD j false = true → ∀ e ∈ oj.after, Region.binds md e = true → listed.getD e.on false = true

def closedB (md : Region.Mode) (ops : Array Oper) (listed : Array Bool) : Bool :=
  (List.range ops.size).all fun j => !listed.getD j false || match ops[j]? with
    | some oj => oj.after.all fun e => !Region.binds md e || listed.getD e.on false
    | none => true

theorem closed_of {listed : Array Bool} (h : closedB md ops listed = true) : Closed md ops listed := fun j oj hoj hl e he hb => by
  have hlt : j < ops.size := (Array.getElem?_eq_some_iff.1 hoj).1
  have := List.all_eq_true.1 h j (List.mem_range.2 hlt)
  simp only [hl, Bool.not_true, Bool.false_or, hoj] at this
  have h2 := Array.all_eq_true_iff_forall_mem.1 this e he
  simpa [hb] using h2

theorem Closed.set {listed : Array Bool} (h : Closed md ops listed) {i : Nat} (hi : i ∈ Region.ready md ops listed) : Closed md ops (listed.setIfInBounds i true) := fun j oj hoj hl e he hb => by
  have keep : listed.getD e.on false = true → (listed.setIfInBounds i true).getD e.on false = true := fun hh => getD_set_true hh
  by_cases hij : i = j
  · subst hij
    obtain ⟨_, o, ho, hall⟩ := mem_ready.1 hi
    rw [hoj] at ho
    injection ho with ho
    subst ho
    exact keep (hall e he hb)
  · rw [getD_set_ne false hij] at hl
    exact keep (h j oj hoj hl e he hb)

theorem reach_unlisted {listed : Array Bool} (hc : Closed md ops listed) {i : Nat} (hi : listed.getD i false = false) {j : Nat} (h : WaitsFor md ops i j) :
    listed.getD j false = false ∧ ∀ oj, ops[j]? = some oj → ∃ e ∈ oj.after, Region.binds md e = true ∧ listed.getD e.on false = false := by
  have fin : ∀ {j : Nat} {o : Oper} {e : Edge}, ops[j]? = some o → e ∈ o.after → Region.binds md e = true → listed.getD e.on false = false → listed.getD j false = false ∧ ∀ oj, ops[j]? = some oj → ∃ e ∈ oj.after, Region.binds md e = true ∧ listed.getD e.on false = false := by
    intro j o e ho he hb hun
    refine ⟨?_, fun oj' hoj' => by rw [ho] at hoj'; injection hoj' with hoj'; subst hoj'; exact ⟨e, he, hb, hun⟩⟩
    cases hl : listed.getD j false with
    | false => rfl
    | true => rw [hc j o ho hl e he hb] at hun; cases hun
  induction h with
  | one h1 h2 h3 h4 => exact fin h1 h2 h3 (by rw [h4]; exact hi)
  | far h1 h2 h3 _ ih => exact fin h1 h2 h3 ih.1

theorem wpAnyT_first {i : Nat} {oi : Oper} {v : Value} (hi : ops[i]? = some oi) (hsel : ∀ (j : Nat) (o : Oper) cs b, ops[j]? = some o → o.op ≠ .select cs b)
    (hQ : ∀ c a w, Q (.panic c) (a.put oi.dst v) w → Q (.panic c) a w) (hT : tailWaits md ops T i = true) (h2 : ∀ j, T j = 0 ∨ T j = 1 ∨ T j = 2) (hi2 : T i = 2) :
    ∀ (fuel : Nat) (listed : Array Bool) (a : Act) (w : World), Closed md ops listed →
      (∀ j oj, ops[j]? = some oj → j ≠ i → listed.getD j true = false → (∀ e ∈ oj.after, Region.binds md e = true → e.on ≠ i) → oi.apart ops oj = true) →
      i ∈ Region.ready md ops listed → YieldsIf P ops S oi v a → S w →
      wpAnyT P md ops Q S T fuel (listed.setIfInBounds i true) (a.put oi.dst v) w → wpAnyT P md ops Q S T (fuel + 1) listed a w := by
  intro fuel
  induction fuel with
  | zero =>
    intro listed a w _ _ hr hy hS H
    refine ⟨fun h => (by rw [h] at hr; cases hr), fun j hj => ?_⟩
    by_cases hji : j = i
    · subst hji; exact hy.wpOp hi hS ⟨⟨fun _ => hS, fun _ => rfl⟩, H⟩
    · have := ready_mono hj hji
      rw [H.1] at this
      cases this
  | succ fuel ih =>
    intro listed a w hcl hfree hr hy hS H
    refine ⟨fun h => (by rw [h] at hr; cases hr), fun j hj => ?_⟩
    by_cases hji : j = i
    · subst hji; exact hy.wpOp hi hS ⟨⟨fun _ => hS, fun _ => rfl⟩, H⟩
    · have h1 := H.2 j (ready_mono hj hji)
      obtain ⟨hjun, oj, hoj, hall⟩ := mem_ready.1 hj
      have hnot : ∀ e ∈ oj.after, Region.binds md e = true → e.on ≠ i := fun e he hb heq => by
        have h1 := hall e he hb
        have h0 := (mem_ready.1 hr).1
        rw [heq] at h1
        rcases Nat.lt_or_ge i listed.size with h' | h'
        · simp [h'] at h0 h1; rw [h0] at h1; cases h1
        · simp [Array.getElem?_eq_none h'] at h1
      have hTj : T j ≠ 1 := by
        intro hTj
        have hlt : j < ops.size := (Array.getElem?_eq_some_iff.1 hoj).1
        have := List.all_eq_true.1 hT j (List.mem_range.2 hlt)
        simp only [hTj] at this
        have hiu : listed.getD i false = false := by
          have h0 := (mem_ready.1 hr).1
          rcases Nat.lt_or_ge i listed.size with h' | h'
          · simp [h'] at h0 ⊢; exact h0
          · simp [Array.getElem?_eq_none h'] at h0
        obtain ⟨e, he, hb, hun⟩ := (reach_unlisted hcl hiu (waitsB_spec (by simpa using this))).2 oj hoj
        rw [hall e he hb] at hun
        cases hun
      have hp := wpOp_putIf hoj (hfree j oj hoj hji hjun hnot) (fun cs b => hsel i oi cs b hi) (fun cs b => hsel j oj cs b hoj) hQ hy h1
      have hfree' : ∀ k ok, ops[k]? = some ok → k ≠ i → (listed.setIfInBounds j true).getD k true = false →
          (∀ e ∈ ok.after, Region.binds md e = true → e.on ≠ i) → oi.apart ops ok = true := fun k ok hk hki hun hno => by
        refine hfree k ok hk hki ?_ hno
        by_cases hjk : j = k
        · subst hjk; exact hjun
        · rw [getD_set_ne true hjk] at hun; exact hun
      have hS3 : ∀ w', ((T j = 0 → S w') ∧ (T j = 2 → w' = w)) → S w' := fun w' q => (h2 j).elim (fun e => q.1 e) (fun e => e.elim (fun e => absurd e hTj) (fun e => (q.2 e).symm ▸ hS))
      refine wpOp_mono (fun a' w' h3 => ⟨h3.2.1, ih (listed.setIfInBounds j true) a' w' (hcl.set hj) hfree' (ready_mono hr (Ne.symm hji)) h3.1 (hS3 w' h3.2.1) ?_⟩) hp
      rw [Array.setIfInBounds_comm _ _ hji]
      exact h3.2.2

theorem wpAnyT_pure {i : Nat} {oi : Oper} {v : Value} (hi : ops[i]? = some oi) (hsel : ∀ (j : Nat) (o : Oper) cs b, ops[j]? = some o → o.op ≠ .select cs b)
    (hQ : ∀ c a w, Q (.panic c) (a.put oi.dst v) w → Q (.panic c) a w) (hTi : T i = 2) :
    ∀ (fuel : Nat) (listed : Array Bool) (a : Act) (w : World),
      (∀ j oj, ops[j]? = some oj → j ≠ i → listed.getD j true = false → (∀ e ∈ oj.after, Region.binds md e = true → e.on ≠ i) → oi.apart ops oj = true) →
      i ∈ Region.ready md ops listed → YieldsIf P ops (fun _ => True) oi v a →
      wpAnyT P md ops Q S T fuel (listed.setIfInBounds i true) (a.put oi.dst v) w → wpAnyT P md ops Q S T (fuel + 1) listed a w := by
  have hTn : ∀ w : World, (T i = 0 → S w) ∧ (T i = 2 → w = w) := fun w => ⟨(fun h => by rw [hTi] at h; cases h), fun _ => rfl⟩
  intro fuel
  induction fuel with
  | zero =>
    intro listed a w _ hr hy H
    refine ⟨fun h => (by rw [h] at hr; cases hr), fun j hj => ?_⟩
    by_cases hji : j = i
    · subst hji; exact hy.wpOp hi trivial ⟨hTn _, H⟩
    · have := ready_mono hj hji
      rw [H.1] at this
      cases this
  | succ fuel ih =>
    intro listed a w hfree hr hy H
    refine ⟨fun h => (by rw [h] at hr; cases hr), fun j hj => ?_⟩
    by_cases hji : j = i
    · subst hji; exact hy.wpOp hi trivial ⟨hTn _, H⟩
    · have h1 := H.2 j (ready_mono hj hji)
      obtain ⟨hjun, oj, hoj, hall⟩ := mem_ready.1 hj
      have hnot : ∀ e ∈ oj.after, Region.binds md e = true → e.on ≠ i := fun e he hb heq => by
        have h1 := hall e he hb
        have h0 := (mem_ready.1 hr).1
        rw [heq] at h1
        rcases Nat.lt_or_ge i listed.size with h' | h'
        · simp [h'] at h0 h1; rw [h0] at h1; cases h1
        · simp [Array.getElem?_eq_none h'] at h1
      have h2 := wpOp_putIf hoj (hfree j oj hoj hji hjun hnot) (fun cs b => hsel i oi cs b hi) (fun cs b => hsel j oj cs b hoj) hQ hy h1
      have hfree' : ∀ k ok, ops[k]? = some ok → k ≠ i → (listed.setIfInBounds j true).getD k true = false →
          (∀ e ∈ ok.after, Region.binds md e = true → e.on ≠ i) → oi.apart ops ok = true := fun k ok hk hki hun hno => by
        refine hfree k ok hk hki ?_ hno
        by_cases hjk : j = k
        · subst hjk; exact hjun
        · rw [getD_set_ne true hjk] at hun; exact hun
      refine wpOp_mono (fun a' w' h3 => ⟨h3.2.1, ih (listed.setIfInBounds j true) a' w' hfree' (ready_mono hr (Ne.symm hji)) h3.1 ?_⟩) h2
      rw [Array.setIfInBounds_comm _ _ hji]
      exact h3.2.2

def RWs (P : Program) (n : Nat) (ops : Array Oper) (Q : Exit → Env → World → Prop) (S : World → Prop) (T : Nat → Nat) (fuel : Nat) (listed : Array Bool) (env : Env) (w : World) : Prop :=
  ∀ a, Agree n env a → wpAnyT P .any ops (NoPanicE (lift n Q)) S T fuel listed a w
where
  NoPanicE (Q : Exit → Act → World → Prop) : Exit → Act → World → Prop
    | .normal, a, w => Q .normal a w
    | _, _, _ => False
end

section
variable {P : Program} {n : Nat} {l : List Oper} {S : World → Prop} {T : Nat → Nat} {Q : Exit → Env → World → Prop} {env : Env} {w : World}

theorem cw_region_s {id : Nat} (S : World → Prop) (T : Nat → Nat) (hm : P.follows .mixedOrders = true)
    (h : ∀ w', w' = w.drew → RWs P n l.toArray Q S T l.length (Array.replicate l.length false) env w') : CW P n (.region id l.toArray true) Q env w := fun a ha =>
  wp_mono (Q := RWs.NoPanicE (lift n Q)) (wp_region_any hm (wpAny_of_T _ _ _ _ (by have := h _ rfl a ha; simpa using this))) fun e a w hh => by
    cases e with
    | normal => exact hh
    | _ => exact hh.elim

variable {ops : Array Oper} {fuel : Nat} {listed : Array Bool}

theorem s_nil (hr : Region.ready .any ops listed = []) (h : Q .normal env w) : RWs P n ops Q S T 0 listed env w := fun _ ha => ⟨hr, env, ha, h⟩

variable {i d : Nat} {op : Op} {ty : TypeId} {pos : String} {after : Array Edge}

/-- The classes: e: effects behind which S holds; t: the tail's. -/
def cls (e t : List Nat) (j : Nat) : Nat := bif e.contains j then 0 else bif t.contains j then 1 else 2
theorem cls_or (e t : List Nat) (j : Nat) : cls e t j = 0 ∨ cls e t j = 1 ∨ cls e t j = 2 := by
  unfold cls
  cases e.contains j <;> cases t.contains j <;> simp

/-- The side conditions of taking number i now, as one Bool. -/
def takeB (ops : Array Oper) (T : Nat → Nat) (listed : Array Bool) (i : Nat) : Bool :=
  Region.noSelect ops && Region.free .any ops listed i && (Region.ready .any ops listed).contains i && tailWaits .any ops T i && closedB .any ops listed && Nat.beq (T i) 2

theorem s_take (hT2 : ∀ j, T j = 0 ∨ T j = 1 ∨ T j = 2) {oi : Oper} {v : Value} (hi : ops[i]? = some oi) (hb : takeB ops T listed i = true)
    (hy : ∀ a, Agree n env a → YieldsIf P ops S oi v a) (hS : S w)
    (K : ∀ a, Agree n env a → wpAnyT P .any ops (RWs.NoPanicE (lift n Q)) S T fuel (listed.setIfInBounds i true) (a.put oi.dst v) w) :
    RWs P n ops Q S T (fuel + 1) listed env w := fun a ha => by
  simp only [takeB, Bool.and_eq_true] at hb
  obtain ⟨⟨⟨⟨⟨h1, h2⟩, h3⟩, h4⟩, h5⟩, h6⟩ := hb
  exact wpAnyT_first hi (Region.noSelect_spec h1) (fun c a w h => h) h4 hT2 (Nat.eq_of_beq_eq_true h6) fuel listed a w (closed_of h5) (Region.free_spec hi h2) (by simpa using h3) (hy a ha) hS (K a ha)

/-- The side conditions of taking number i now, which does not look at memory. -/
def pureB (ops : Array Oper) (T : Nat → Nat) (listed : Array Bool) (i : Nat) : Bool :=
  Region.noSelect ops && Region.free .any ops listed i && (Region.ready .any ops listed).contains i && Nat.beq (T i) 2

theorem s_rp {v : Value} (hi : ops[i]? = some ⟨some d, op, ty, pos, after, none⟩) (hb : pureB ops T listed i = true) (hd : Nat.blt d n = true)
    (h : ∀ w, Rd P n env ⟨some d, op, ty, pos, after, none⟩ w v)
    (K : RWs P n ops Q S T fuel (listed.setIfInBounds i true) ((d, v) :: env) w) : RWs P n ops Q S T (fuel + 1) listed env w := fun a ha => by
  simp only [pureB, Bool.and_eq_true] at hb
  obtain ⟨⟨⟨h1, h2⟩, h3⟩, h4'⟩ := hb
  have h4 := Nat.eq_of_beq_eq_true h4'
  exact wpAnyT_pure hi (Region.noSelect_spec h1) (fun c a w h => h) h4 fuel listed a w (Region.free_spec hi h2) (by simpa using h3) (.inl ⟨rfl, fun w _ => h w a ha⟩) (K _ (ha.put hd v))

theorem s_rpg {v u : Value} {j t : Nat} {want g : Bool} (hi : ops[i]? = some ⟨some d, op, ty, pos, after, some (j, want)⟩) (hb : pureB ops T listed i = true) (hd : Nat.blt d n = true)
    (hj : (ops[j]?).bind (·.dst) = some t) (ht : Nat.blt t n = true) (hu : get env t = some u) (hg : GV u want g)
    (h : g = true → ∀ w, Rd P n env ⟨some d, op, ty, pos, after, some (j, want)⟩ w v)
    (K : RWs P n ops Q S T fuel (listed.setIfInBounds i true) ((d, gV g v) :: env) w) : RWs P n ops Q S T (fuel + 1) listed env w := fun a ha => by
  simp only [pureB, Bool.and_eq_true] at hb
  obtain ⟨⟨⟨h1, h2⟩, h3⟩, h4'⟩ := hb
  have h4 := Nat.eq_of_beq_eq_true h4'
  refine wpAnyT_pure (v := gV g v) hi (Region.noSelect_spec h1) (fun c a w h => h) h4 fuel listed a w (Region.free_spec hi h2) (by simpa using h3) ?_ (K _ (ha.put hd _))
  have hw := wanted_of (ops := ops) (o := ⟨some d, op, ty, pos, after, some (j, want)⟩) ha rfl hj ht hu hg
  cases g with
  | true => exact .inl ⟨hw, fun w _ => h rfl w a ha⟩
  | false => exact .inr ⟨hw, rfl⟩

theorem s_rd {e0 t0 : List Nat} {v : Value} (hi : ops[i]? = some ⟨some d, op, ty, pos, after, none⟩) (hb : takeB ops (cls e0 t0) listed i = true) (hd : Nat.blt d n = true)
    (h : ∀ w, S w → Rd P n env ⟨some d, op, ty, pos, after, none⟩ w v) (hS : S w)
    (K : RWs P n ops Q S (cls e0 t0) fuel (listed.setIfInBounds i true) ((d, v) :: env) w) : RWs P n ops Q S (cls e0 t0) (fuel + 1) listed env w :=
  s_take (cls_or e0 t0) hi hb (fun a ha => .inl ⟨rfl, fun w hw => h w hw a ha⟩) hS fun _ ha => K _ (ha.put hd v)

theorem s_rdg {e0 t0 : List Nat} {v u : Value} {j t : Nat} {want g : Bool} (hi : ops[i]? = some ⟨some d, op, ty, pos, after, some (j, want)⟩) (hb : takeB ops (cls e0 t0) listed i = true) (hd : Nat.blt d n = true)
    (hj : (ops[j]?).bind (·.dst) = some t) (ht : Nat.blt t n = true) (hu : get env t = some u) (hg : GV u want g)
    (h : g = true → ∀ w, S w → Rd P n env ⟨some d, op, ty, pos, after, some (j, want)⟩ w v) (hS : S w)
    (K : RWs P n ops Q S (cls e0 t0) fuel (listed.setIfInBounds i true) ((d, gV g v) :: env) w) : RWs P n ops Q S (cls e0 t0) (fuel + 1) listed env w :=
  s_take (cls_or e0 t0) (v := gV g v) hi hb (fun a ha => by
    have hw := wanted_of (ops := ops) (o := ⟨some d, op, ty, pos, after, some (j, want)⟩) ha rfl hj ht hu hg
    cases g with
    | true => exact .inl ⟨hw, fun w hS' => h rfl w hS' a ha⟩
    | false => exact .inr ⟨hw, rfl⟩) hS fun _ ha => K _ (ha.put hd _)

theorem wpOp_ef {Q : Exit → Act → World → Prop} {o : Oper} {R : Value → World → Prop} (hi : ops[i]? = some o) (hg : o.guard = none) (h : Ef P n env o w R) {a : Act} (ha : Agree n env a) {K : Act → World → Prop}
    (hK : ∀ v w', R v w' → K (a.put o.dst v) w') : wpOp P ops Q i K a w := by
  unfold wpOp
  simp only [hi, Region.wanted, hg, if_true]
  exact .inl (h a ha _ _ hK)

theorem s_ef {R : Value → World → Prop} (hi : ops[i]? = some ⟨some d, op, ty, pos, after, none⟩) (hr : Region.ready .any ops listed = [i]) (hd : Nat.blt d n = true)
    (h : Ef P n env ⟨some d, op, ty, pos, after, none⟩ w R) (hT : Nat.beq (T i) 2 = false) (hS : ∀ v w', R v w' → T i = 0 → S w')
    (K : ∀ v w', R v w' → RWs P n ops Q S T fuel (listed.setIfInBounds i true) ((d, v) :: env) w') : RWs P n ops Q S T (fuel + 1) listed env w := fun a ha =>
  ⟨(fun h0 => by rw [hr] at h0; cases h0), fun j hj => by
    rw [hr] at hj
    have : j = i := by simpa using hj
    subst this
    exact wpOp_ef hi rfl h ha fun v w' hR => ⟨⟨hS v w' hR, fun e => by rw [e] at hT; cases hT⟩, K v w' hR _ (ha.put hd v)⟩⟩

theorem s_ef0 {R : Value → World → Prop} (hi : ops[i]? = some ⟨none, op, ty, pos, after, none⟩) (hr : Region.ready .any ops listed = [i])
    (h : Ef P n env ⟨none, op, ty, pos, after, none⟩ w R) (hT : Nat.beq (T i) 2 = false) (hS : ∀ v w', R v w' → T i = 0 → S w')
    (K : ∀ v w', R v w' → RWs P n ops Q S T fuel (listed.setIfInBounds i true) env w') : RWs P n ops Q S T (fuel + 1) listed env w := fun a ha =>
  ⟨(fun h0 => by rw [hr] at h0; cases h0), fun j hj => by
    rw [hr] at hj
    have : j = i := by simpa using hj
    subst this
    exact wpOp_ef hi rfl h ha fun v w' hR => ⟨⟨hS v w' hR, fun e => by rw [e] at hT; cases hT⟩, K v w' hR _ ha⟩⟩

theorem s_efg {u : Value} {j t : Nat} {want g : Bool} {R : Value → World → Prop} (hi : ops[i]? = some ⟨some d, op, ty, pos, after, some (j, want)⟩) (hr : Region.ready .any ops listed = [i]) (hd : Nat.blt d n = true)
    (hj : (ops[j]?).bind (·.dst) = some t) (ht : Nat.blt t n = true) (hu : get env t = some u) (hg : GV u want g)
    (h : g = true → Ef P n env ⟨some d, op, ty, pos, after, some (j, want)⟩ w R) (h0 : g = false → R undef w) (hT : Nat.beq (T i) 2 = false) (hS : ∀ v w', R v w' → T i = 0 → S w')
    (K : ∀ v w', R v w' → RWs P n ops Q S T fuel (listed.setIfInBounds i true) ((d, v) :: env) w') : RWs P n ops Q S T (fuel + 1) listed env w := fun a ha =>
  ⟨(fun h0 => by rw [hr] at h0; cases h0), fun k hk => by
    rw [hr] at hk
    have : k = i := by simpa using hk
    subst this
    have hw := wanted_of (ops := ops) (o := ⟨some d, op, ty, pos, after, some (j, want)⟩) ha rfl hj ht hu hg
    unfold wpOp
    simp only [hi]
    rw [hw]
    cases g with
    | true => simp only [if_true]; exact .inl (h rfl a ha _ _ fun v w' hR => ⟨⟨hS v w' hR, fun e => by rw [e] at hT; cases hT⟩, K v w' hR _ (ha.put hd _)⟩)
    | false => simp only [Bool.false_eq_true, if_false]; exact ⟨⟨hS _ _ (h0 rfl), fun e => by rw [e] at hT; cases hT⟩, K _ _ (h0 rfl) _ (ha.put hd _)⟩⟩
/-- Where several effects may come next: one of them is taken. -/
def RWe (P : Program) (n : Nat) (ops : Array Oper) (Q : Exit → Env → World → Prop) (S : World → Prop) (T : Nat → Nat) (fuel : Nat) (listed : Array Bool) (i : Nat) (env : Env) (w : World) : Prop :=
  ∀ a, Agree n env a → wpOp P ops (RWs.NoPanicE (lift n Q)) i (fun a' w' => ((T i = 0 → S w') ∧ (T i = 2 → w' = w)) ∧ wpAnyT P .any ops (RWs.NoPanicE (lift n Q)) S T fuel (listed.setIfInBounds i true) a' w') a w
theorem s_br2 {i j : Nat} (hr : Region.ready .any ops listed = [i, j]) (h1 : RWe P n ops Q S T fuel listed i env w) (h2 : RWe P n ops Q S T fuel listed j env w) : RWs P n ops Q S T (fuel + 1) listed env w := fun a ha =>
  ⟨(fun h0 => by rw [hr] at h0; cases h0), fun k hk => by
    rw [hr] at hk
    simp only [List.mem_cons, List.not_mem_nil, or_false] at hk
    rcases hk with rfl | rfl
    · exact h1 a ha
    · exact h2 a ha⟩
theorem e_ef {R : Value → World → Prop} (hi : ops[i]? = some ⟨some d, op, ty, pos, after, none⟩) (hd : Nat.blt d n = true)
    (h : Ef P n env ⟨some d, op, ty, pos, after, none⟩ w R) (hT : Nat.beq (T i) 2 = false) (hS : ∀ v w', R v w' → T i = 0 → S w')
    (K : ∀ v w', R v w' → RWs P n ops Q S T fuel (listed.setIfInBounds i true) ((d, v) :: env) w') : RWe P n ops Q S T fuel listed i env w := fun a ha =>
  wpOp_ef hi rfl h ha fun v w' hR => ⟨⟨hS v w' hR, fun e => by rw [e] at hT; cases hT⟩, K v w' hR _ (ha.put hd v)⟩
end
end Go.Gv
namespace Go.Gv
section
variable {P : Program} {n : Nat} {env : Env} {w : World} {d : Option Nat} {ty : TypeId} {pos : String} {af : Array Edge} {g : Option (Nat × Bool)} {x y : Operand} {v u : Value} {k : IntKind} {a b : Int} {t t' : TypeId}

theorem rd_mk {o : Oper} (h : ∀ ρ : Operand → Value, (∀ x v, evo env x = some v → ρ x = v) → (execOp ρ o).run P w = .ok (.value v) w) : Rd P n env o w v :=
  fun ac ha => h ac.eval fun _ _ hx => ha.eval hx
theorem rd_move (hx : evo env x = some v) : Rd P n env ⟨d, .move x, ty, pos, af, g⟩ w v := rd_mk fun ρ hρ => by simp [execOp, hρ _ _ hx, go_sem]
theorem rd_assign (hx : evo env x = some v) : Rd P n env ⟨d, .assign x, ty, pos, af, g⟩ w v := rd_mk fun ρ hρ => by simp [execOp, hρ _ _ hx, go_sem]

theorem rd_bin {op : BinOp} {r : Value} (hx : evo env x = some v) (hy : evo env y = some u) (hg : (eqGuard op t x y v u).run P w = .ok () w) (h : (binOp op t v u).run P w = .ok r w) : Rd P n env ⟨d, .binOp op t x y t', ty, pos, af, g⟩ w r := rd_mk fun ρ hρ => by
  simp [execOp, hρ _ _ hx, hρ _ _ hy, hg, h, go_sem]

theorem guard_int {op : BinOp} {x y : Operand} {k k' : IntKind} {a b : Int} : (eqGuard op t x y (.int k a) (.int k' b)).run P w = .ok () w := by
  unfold eqGuard; cases op <;> simp [go_sem]
theorem guard_string {op : BinOp} {x y : Operand} {a b : ByteArray} : (eqGuard op t x y (.string a) (.string b)).run P w = .ok () w := by
  unfold eqGuard; cases op <;> simp [go_sem]

theorem rd_add (hx : evo env x = some (.int k a)) (hy : evo env y = some (.int k b)) : Rd P n env ⟨d, .binOp .add t x y t', ty, pos, af, g⟩ w (.int k (k.wrap (a + b))) :=
  rd_bin hx hy guard_int (by simp [binOp, Op.intArith, go_sem])
theorem rd_sub (hx : evo env x = some (.int k a)) (hy : evo env y = some (.int k b)) : Rd P n env ⟨d, .binOp .sub t x y t', ty, pos, af, g⟩ w (.int k (k.wrap (a - b))) :=
  rd_bin hx hy guard_int (by simp [binOp, Op.intArith, go_sem])
theorem rd_mul (hx : evo env x = some (.int k a)) (hy : evo env y = some (.int k b)) : Rd P n env ⟨d, .binOp .mul t x y t', ty, pos, af, g⟩ w (.int k (k.wrap (a * b))) :=
  rd_bin hx hy guard_int (by simp [binOp, Op.intArith, go_sem])
theorem rd_quo (hx : evo env x = some (.int k a)) (hy : evo env y = some (.int k b)) (h0 : b ≠ 0) : Rd P n env ⟨d, .binOp .quo t x y t', ty, pos, af, g⟩ w (.int k (k.wrap (a.tdiv b))) :=
  rd_bin hx hy guard_int (by simp [binOp, Op.intDiv, go_sem, h0])
theorem rd_rem (hx : evo env x = some (.int k a)) (hy : evo env y = some (.int k b)) (h0 : b ≠ 0) : Rd P n env ⟨d, .binOp .rem t x y t', ty, pos, af, g⟩ w (.int k (a.tmod b)) :=
  rd_bin hx hy guard_int (by simp [binOp, Op.intDiv, go_sem, h0])
theorem rd_lss (hx : evo env x = some (.int k a)) (hy : evo env y = some (.int k b)) : Rd P n env ⟨d, .binOp .lss t x y t', ty, pos, af, g⟩ w (.bool (decide (a < b))) :=
  rd_bin hx hy guard_int (by simp [binOp, Op.intCmp, go_sem])
theorem rd_leq (hx : evo env x = some (.int k a)) (hy : evo env y = some (.int k b)) : Rd P n env ⟨d, .binOp .leq t x y t', ty, pos, af, g⟩ w (.bool (decide (a ≤ b))) :=
  rd_bin hx hy guard_int (by simp [binOp, Op.intCmp, go_sem])
theorem rd_gtr (hx : evo env x = some (.int k a)) (hy : evo env y = some (.int k b)) : Rd P n env ⟨d, .binOp .gtr t x y t', ty, pos, af, g⟩ w (.bool (decide (b < a))) :=
  rd_bin hx hy guard_int (by simp [binOp, Op.intCmp, go_sem])
theorem rd_geq (hx : evo env x = some (.int k a)) (hy : evo env y = some (.int k b)) : Rd P n env ⟨d, .binOp .geq t x y t', ty, pos, af, g⟩ w (.bool (decide (b ≤ a))) :=
  rd_bin hx hy guard_int (by simp [binOp, Op.intCmp, go_sem])
theorem rd_eql (hx : evo env x = some (.int k a)) (hy : evo env y = some (.int k b)) : Rd P n env ⟨d, .binOp .eql t x y t', ty, pos, af, g⟩ w (.bool (decide (a = b))) :=
  rd_bin hx hy guard_int (by simp [binOp, Op.intCmp, go_sem]; try rfl)
theorem rd_neq (hx : evo env x = some (.int k a)) (hy : evo env y = some (.int k b)) : Rd P n env ⟨d, .binOp .neq t x y t', ty, pos, af, g⟩ w (.bool (!decide (a = b))) :=
  rd_bin hx hy guard_int (by simp [binOp, Op.intCmp, go_sem]; try rfl)
theorem rd_not {a : Bool} (hx : evo env x = some (.bool a)) : Rd P n env ⟨d, .unOp .not t x, ty, pos, af, g⟩ w (.bool (!a)) := rd_mk fun ρ hρ => by
  simp [execOp, hρ _ _ hx, Op.unary, go_sem]
theorem rd_neg (hx : evo env x = some (.int k a)) : Rd P n env ⟨d, .unOp .neg t x, ty, pos, af, g⟩ w (.int k (k.wrap (-a))) := rd_mk fun ρ hρ => by
  simp [execOp, hρ _ _ hx, Op.unary, go_sem]
theorem rd_and {c : Operand} {a b : Bool} (hc : evo env c = some (.bool a)) (hx : a = true → evo env x = some (.bool b)) : Rd P n env ⟨d, .pick c x (.const (.bool false)), ty, pos, af, g⟩ w (.bool (a && b)) := rd_mk fun ρ hρ => by
  cases a with
  | true => simp [execOp, hρ _ _ hc, hρ _ _ (hx rfl), go_sem]
  | false => simp [execOp, hρ _ _ hc, hρ _ _ (show evo env (.const (.bool false)) = some _ from rfl), go_sem]
theorem rd_or {c : Operand} {a b : Bool} (hc : evo env c = some (.bool a)) (hx : a = false → evo env x = some (.bool b)) : Rd P n env ⟨d, .pick c (.const (.bool true)) x, ty, pos, af, g⟩ w (.bool (a || b)) := rd_mk fun ρ hρ => by
  cases a with
  | false => simp [execOp, hρ _ _ hc, hρ _ _ (hx rfl), go_sem]
  | true => simp [execOp, hρ _ _ hc, hρ _ _ (show evo env (.const (.bool true)) = some _ from rfl), go_sem]
theorem rd_extract {vs : Array Value} {i : Nat} (hx : evo env x = some (.tuple vs)) (hi : vs[i]? = some v) : Rd P n env ⟨d, .extract x i, ty, pos, af, g⟩ w v := rd_mk fun ρ hρ => by
  simp [execOp, hρ _ _ hx, Instr.extract, hi, go_sem]
theorem rd_nilCheck {ad : Addr} (hx : evo env x = some (.pointer (some ad))) : Rd P n env ⟨d, .nilCheck x, ty, pos, af, g⟩ w (.pointer (some ad)) := rd_mk fun ρ hρ => by
  simp [execOp, hρ _ _ hx, go_sem]
theorem rd_fieldAddr {b o off : Nat} {fs : Array Field} {f : Nat} {fd : Field} {i : TypeInfo} (ht : P.underlying t = some (.struct fs)) (hf : fs[f]? = some fd) (hi : P.info? fd.type = some i) (hi0 : (i.size == 0) = false) (ho : fd.offset = off)
    (hx : evo env x = some (.pointer (some ⟨b, o, none⟩))) : Rd P n env ⟨d, .fieldAddr t x f, ty, pos, af, g⟩ w (.pointer (some ⟨b, o + off, none⟩)) := rd_mk fun ρ hρ => by
  have hz : i.size ≠ 0 := by simpa using hi0
  subst ho
  simp [execOp, hρ _ _ hx, Instr.fieldAt, Instr.sureAddr, run_underlying ht, hf, fieldPlace, sizeOf, typeInfo, hi, hz, go_sem]
theorem rd_indexAddr {e : TypeId} {i : TypeInfo} {bl o m c sz : Nat} {kk : IntKind} {j : Int} (ht : P.underlying t = some (.slice e)) (hi : P.info? e = some i) (hsz : i.size = sz)
    (hx : evo env x = some (.slice (some ⟨bl, o, none⟩) m c)) (hy : evo env y = some (.int kk j)) (h0 : 0 ≤ j) (h1 : j < m) :
    Rd P n env ⟨d, .indexAddr t x y, ty, pos, af, g⟩ w (.pointer (some ⟨bl, o + j.toNat * sz, none⟩)) := rd_mk fun ρ hρ => by
  subst hsz
  simp [execOp, hρ _ _ hx, hρ _ _ hy, Instr.indexAt, asIntOf, run_underlying ht, sizeOf, typeInfo, hi, h0, h1, go_sem]
theorem rd_len {e : TypeId} {A : Option Addr} {m c : Nat} (ht : P.underlying t = some (.slice e)) (hx : evo env x = some (.slice A m c)) : Rd P n env ⟨d, .call { callee := .builtin .len, args := #[x], argTypes := #[t] }, ty, pos, af, g⟩ w (.int .i64 m) := rd_mk fun ρ hρ => by
  simp [hρ _ _ hx, go_sem, Builtin.len_, run_underlying ht, goInt]
theorem rd_lens {s : ByteArray} (ht : P.underlying t = some .string) (hx : evo env x = some (.string s)) : Rd P n env ⟨d, .call { callee := .builtin .len, args := #[x], argTypes := #[t] }, ty, pos, af, g⟩ w (.int .i64 s.size) := rd_mk fun ρ hρ => by
  simp [hρ _ _ hx, go_sem, Builtin.len_, run_underlying ht, goInt]
theorem rd_max {at_ : Array TypeId} (hx : evo env x = some (.int k a)) (hy : evo env y = some (.int k b)) : Rd P n env ⟨d, .call { callee := .builtin .max, args := #[x, y], argTypes := at_ }, ty, pos, af, g⟩ w (.int k (max a b)) := rd_mk fun ρ hρ => by
  simp [hρ _ _ hx, hρ _ _ hy, go_sem]; omega
end
end Go.Gv
namespace Go.Gv
open Go.RowKit

/-! ### Types of the program, as closed facts -/
def isAggD : TypeDesc → Bool
  | .struct _ | .array _ _ => true
  | _ => false
def TAgg (P : Program) (t sz : Nat) : Prop := (P.underlying t).map isAggD = some true ∧ (P.info? t).map (·.size) = some sz
def TOne (P : Program) (t : Nat) : Prop := (P.underlying t).map isAggD = some false ∧ (P.info? t).map (·.size) = some 1
def TSlice (P : Program) (t e sz : Nat) : Prop := P.underlying t = some (.slice e) ∧ (P.info? e).map (·.size) = some sz
def TFld (P : Program) (t f off : Nat) : Prop :=
  (match P.underlying t with | some (.struct fs) => (fs[f]?).bind fun fd => (P.info? fd.type).map fun i => (fd.offset, i.size == 0) | _ => none) = some (off, false)
def TZero (P : Program) (t sz : Nat) (z : Value) : Prop := (P.info? t).map (fun i => (i.size, i.zero)) = some (sz, some z)
/-! ### What changes -/
structure Chg (X : Nat → Prop) (w w' : World) : Prop where
  os : w'.os = w.os
  tape : w'.tape = w.tape
  output : w'.output = w.output
  size : w.heap.size ≤ w'.heap.size
  kept : ∀ g, g < w.heap.size → ¬ X g → w'.heap[g]? = w.heap[g]?

abbrev No : Nat → Prop := fun _ => False

theorem Chg.refl (X : Nat → Prop) (w : World) : Chg X w w := ⟨rfl, rfl, rfl, Nat.le_refl _, fun _ _ _ => rfl⟩
theorem Chg.drew (X : Nat → Prop) (w : World) : Chg X w w.drew := ⟨rfl, rfl, rfl, Nat.le_refl _, fun _ _ _ => rfl⟩
theorem Chg.alloc (X : Nat → Prop) (w : World) (o : Obj) : Chg X w (w.alloc o) := ⟨rfl, rfl, rfl, by simp, fun g hg _ => by exact Below.heap_alloc w o g hg⟩
theorem Chg.setRow (w : World) (g : Nat) (cs : Array Value) : Chg (fun k => k = g) w (w.setRow g cs) := ⟨rfl, rfl, rfl, by simp, fun k _ hk => setRow_other w g k cs hk⟩
theorem Chg.of_grown {w w' : World} {row : Option Nat} (h : w.grownBy w' row) : Chg (fun k => row = some k) w w' := ⟨h.os, h.tape, h.output, h.size, fun g hg hx => h.block g hg (fun e => hx e.symm)⟩
theorem Chg.mono {X Y : Nat → Prop} {w w' : World} (h : Chg X w w') (hxy : ∀ g, X g → Y g) : Chg Y w w' := ⟨h.os, h.tape, h.output, h.size, fun g hg hy => h.kept g hg fun hx => hy (hxy g hx)⟩

/-- A part of memory: the blocks D, and what holds of them. -/
structure Chunk where
  D : Nat → Prop
  φ : World → Prop
  loc : ∀ w w' : World, (∀ g, D g → w'.heap[g]? = w.heap[g]?) → φ w → φ w'
  lt : ∀ w : World, φ w → ∀ g, D g → g < w.heap.size

structure Mem (w0 : World) (T : Nat → Prop) (L : List Chunk) (w : World) : Prop where
  chg : Chg T w0 w
  own : ∀ c ∈ L, c.φ w
  dom : ∀ c ∈ L, ∀ g, c.D g → w0.heap.size ≤ g ∨ T g
  disj : L.Pairwise fun c c' => ∀ g, c.D g → ¬ c'.D g

section
variable {w0 w w' : World} {T : Nat → Prop} {L Lr : List Chunk} {c c' : Chunk} {k : Nat}

theorem Mem.nil (w : World) : Mem w No [] w := ⟨Chg.refl _ _, by simp, by simp, List.Pairwise.nil⟩
theorem Mem.get (hm : Mem w0 T L w) (hk : L[k]? = some c) : c.φ w := hm.own c (List.mem_of_getElem? hk)

/-- Nothing of what is known changes. -/
theorem Mem.same (hm : Mem w0 T L w) (hc : Chg No w w') : Mem w0 T L w' :=
  ⟨⟨hc.os.trans hm.chg.os, hc.tape.trans hm.chg.tape, hc.output.trans hm.chg.output, Nat.le_trans hm.chg.size hc.size,
    fun g hg ht => (hc.kept g (Nat.lt_of_lt_of_le hg hm.chg.size) id).trans (hm.chg.kept g hg ht)⟩,
   fun c hcL => c.loc w w' (fun g hg => hc.kept g (c.lt w (hm.own c hcL) g hg) id) (hm.own c hcL), hm.dom, hm.disj⟩

theorem Mem.drew (hm : Mem w0 T L w) : Mem w0 T L w.drew := hm.same (Chg.drew _ _)

theorem Mem.add (hm : Mem w0 T L w) (hc : Chg No w w') (hφ : c.φ w') (hD : ∀ g, c.D g → w.heap.size ≤ g) : Mem w0 T (c :: L) w' := by
  have h := hm.same hc
  refine ⟨h.chg, ?_, ?_, List.Pairwise.cons ?_ h.disj⟩
  · intro x hx
    rcases List.mem_cons.1 hx with rfl | hx
    · exact hφ
    · exact h.own x hx
  · intro x hx g hg
    rcases List.mem_cons.1 hx with rfl | hx
    · exact .inl (Nat.le_trans hm.chg.size (hD g hg))
    · exact h.dom x hx g hg
  · intro x hx g hg hg'
    have := x.lt w (hm.own x hx) g hg'
    have := hD g hg
    omega

/-- A callee that changes nothing that was there, and hands back new parts. -/
theorem Mem.call (hm : Mem w0 T L w) (hc : Mem w No Lr w') : Mem w0 T (Lr ++ L) w' := by
  have h := hm.same hc.chg
  have hnew : ∀ x ∈ Lr, ∀ g, x.D g → w.heap.size ≤ g := fun x hx g hg => (hc.dom x hx g hg).resolve_right id
  refine ⟨h.chg, ?_, ?_, List.pairwise_append.2 ⟨hc.disj, h.disj, ?_⟩⟩
  · intro x hx
    rcases List.mem_append.1 hx with hx | hx
    · exact hc.own x hx
    · exact h.own x hx
  · intro x hx g hg
    rcases List.mem_append.1 hx with hx | hx
    · exact .inl (Nat.le_trans hm.chg.size (hnew x hx g hg))
    · exact h.dom x hx g hg
  · intro x hx y hy g hg hg'
    have := y.lt w (hm.own y hy) g hg'
    have := hnew x hx g hg
    omega

theorem pairwise_set {α : Type} {R : α → α → Prop} (hsym : ∀ a b, R a b → R b a) : ∀ {l : List α} {k : Nat} {a b : α}, l[k]? = some a → l.Pairwise R → (∀ x ∈ l, R a x → R b x) → (l.set k b).Pairwise R
  | [], _, _, _, h, _, _ => by simp at h
  | x :: l, 0, a, b, h, hp, hr => by
    simp at h
    subst h
    rw [List.set_cons_zero]
    rw [List.pairwise_cons] at hp ⊢
    exact ⟨fun y hy => hr y (List.mem_cons_of_mem _ hy) (hp.1 y hy), hp.2⟩
  | x :: l, k + 1, a, b, h, hp, hr => by
    simp at h
    rw [List.set_cons_succ]
    rw [List.pairwise_cons] at hp ⊢
    refine ⟨fun y hy => ?_, pairwise_set hsym h hp.2 fun z hz => hr z (List.mem_cons_of_mem _ hz)⟩
    rcases List.mem_or_eq_of_mem_set hy with hy | rfl
    · exact hp.1 y hy
    · exact hsym _ _ (hr x List.mem_cons_self (hsym _ _ (hp.1 a (List.mem_of_getElem? h))))

theorem pairwise_at {α : Type} {R : α → α → Prop} (hsym : ∀ a b, R a b → R b a) {l : List α} (hp : l.Pairwise R) {i j : Nat} {a b : α} (hi : l[i]? = some a) (hj : l[j]? = some b) (hne : i ≠ j) : R a b := by
  rw [List.pairwise_iff_getElem] at hp
  obtain ⟨hil, rfl⟩ := List.getElem?_eq_some_iff.1 hi
  obtain ⟨hjl, rfl⟩ := List.getElem?_eq_some_iff.1 hj
  rcases Nat.lt_or_gt_of_ne hne with h | h
  · exact hp i j hil hjl h
  · exact hsym _ _ (hp j i hjl hil h)

theorem disj_symm : ∀ a b : Chunk, (∀ g, a.D g → ¬ b.D g) → ∀ g, b.D g → ¬ a.D g := fun _ _ h g hb ha => h g ha hb

/-- Part k changes, and becomes c'. -/
theorem Mem.upd (hm : Mem w0 T L w) (hk : L[k]? = some c) (hc : Chg c.D w w') (hφ : c'.φ w') (hD : ∀ g, c'.D g → c.D g ∨ w.heap.size ≤ g) : Mem w0 T (L.set k c') w' := by
  have hcL := List.mem_of_getElem? hk
  have hkl : k < L.length := (List.getElem?_eq_some_iff.1 hk).1
  have far : ∀ j x, L[j]? = some x → j ≠ k → x.φ w' := fun j x hx hjk => by
    have hd := pairwise_at disj_symm hm.disj hk hx (Ne.symm hjk)
    exact x.loc w w' (fun g hg => hc.kept g (x.lt w (hm.get hx) g hg) fun hcg => hd g hcg hg) (hm.get hx)
  refine ⟨⟨hc.os.trans hm.chg.os, hc.tape.trans hm.chg.tape, hc.output.trans hm.chg.output, Nat.le_trans hm.chg.size hc.size, fun g hg ht => ?_⟩, ?_, ?_, ?_⟩
  · refine (hc.kept g (Nat.lt_of_lt_of_le hg hm.chg.size) fun hcg => ?_).trans (hm.chg.kept g hg ht)
    rcases hm.dom c hcL g hcg with h | h
    · omega
    · exact ht h
  · intro x hx
    obtain ⟨j, hj⟩ := List.getElem?_of_mem hx
    rw [List.getElem?_set] at hj
    by_cases hjk : k = j
    · subst hjk
      simp [hkl] at hj
      subst hj
      exact hφ
    · rw [if_neg hjk] at hj
      exact far j x hj (Ne.symm hjk)
  · intro x hx g hg
    rcases List.mem_or_eq_of_mem_set hx with hx | rfl
    · exact hm.dom x hx g hg
    · rcases hD g hg with h | h
      · exact hm.dom c hcL g h
      · exact .inl (Nat.le_trans hm.chg.size h)
  · refine pairwise_set disj_symm hk hm.disj fun x hx hcx g hg hxg => ?_
    rcases hD g hg with h | h
    · exact hcx g h hxg
    · have := x.lt w (hm.own x hx) g hxg
      omega

/-- A callee that changes part k (its T is part k's blocks), and hands back new parts behind it. -/
theorem Mem.callT {X : Nat → Prop} (hm : Mem w0 T L w) (hk : L[k]? = some c) (hX : ∀ g, X g → c.D g) (hc : Mem w X (c' :: Lr) w') (hD : ∀ g, c'.D g ↔ X g) : Mem w0 T (Lr ++ L.set k c') w' := by
  have h := hm.upd hk (hc.chg.mono hX) (hc.own c' List.mem_cons_self) (fun g hg => .inl (hX g ((hD g).1 hg)))
  have hd := List.pairwise_cons.1 hc.disj
  have hnew : ∀ x ∈ Lr, ∀ g, x.D g → w.heap.size ≤ g := fun x hx g hg => (hc.dom x (List.mem_cons_of_mem _ hx) g hg).resolve_right fun hxg => hd.1 x hx g ((hD g).2 hxg) hg
  refine ⟨h.chg, ?_, ?_, List.pairwise_append.2 ⟨hd.2, h.disj, ?_⟩⟩
  · intro x hx
    rcases List.mem_append.1 hx with hx | hx
    · exact hc.own x (List.mem_cons_of_mem _ hx)
    · exact h.own x hx
  · intro x hx g hg
    rcases List.mem_append.1 hx with hx | hx
    · exact .inl (Nat.le_trans hm.chg.size (hnew x hx g hg))
    · exact h.dom x hx g hg
  · intro x hx y hy g hg hg'
    have hn := hnew x hx g hg
    rcases List.mem_or_eq_of_mem_set hy with hy | rfl
    · have := y.lt w (hm.own y hy) g hg'
      omega
    · exact hd.1 x hx g hg' hg

theorem Mem.sub (hm : Mem w0 T L w) (hs : List.Sublist Lr L) : Mem w0 T Lr w :=
  ⟨hm.chg, fun c hc => hm.own c (hs.subset hc), fun c hc => hm.dom c (hs.subset hc), hm.disj.sublist hs⟩

/-- The old blocks that are not touched. -/
abbrev Old (w0 : World) (T : Nat → Prop) : Nat → Prop := fun g => g < w0.heap.size ∧ ¬ T g
theorem Mem.old (hm : Mem w0 T L w) : ∀ g, Old w0 T g → w.heap[g]? = w0.heap[g]? := fun g hg => hm.chg.kept g hg.1 hg.2
theorem Mem.old_old (hm : Mem w0 T L w) (hk : L[k]? = some c) : ∀ g, Old w0 T g → Old w c.D g := fun g hg => ⟨Nat.lt_of_lt_of_le hg.1 hm.chg.size, fun hc => by
  rcases hm.dom c (List.mem_of_getElem? hk) g hc with h | h
  · exact absurd hg.1 (by omega)
  · exact hg.2 h⟩
end

/-- A block known whole. -/
def blk (g t : Nat) (cs : List Value) : Chunk where
  D := fun k => k = g
  φ := fun w => w.heap[g]? = some (.cells cs.toArray t (0, 0))
  loc := fun w w' h hφ => (h g rfl).trans hφ
  lt := fun w hφ k hk => by subst hk; exact (Array.getElem?_eq_some_iff.1 hφ).1

def CellsAt (w : World) (b o : Nat) (cs : List Value) : Prop := ∀ (j : Nat) (u : Value), cs[j]? = some u → w.cell? ⟨b, o + j, none⟩ = some u

theorem cells_blk {w : World} {g t : Nat} {cs : List Value} (h : (blk g t cs).φ w) : CellsAt w g 0 cs := fun j u hu => by
  have h' : w.heap[g]? = some (.cells cs.toArray t (0, 0)) := h
  rw [Nat.zero_add, cell_of_row w g j cs.toArray t (0, 0) h']
  simpa using hu

theorem Mem.blk {w0 w : World} {T : Nat → Prop} {L : List Chunk} (hm : Mem w0 T L w) (k : Nat) {g t : Nat} {cs : List Value} (hk : L[k]? = some (Gv.blk g t cs)) : CellsAt w g 0 cs := cells_blk (hm.get hk)

/-! ### Typed data -/
class Rep (α : Type) where
  sz : Nat
  bytes : Nat
  rep : (Nat → Prop) → World → α → List Value → Prop
  len : ∀ R w x cs, rep R w x cs → cs.length = sz
  one : ∀ R w x cs, rep R w x cs → ∀ u ∈ cs, u.oneCell' = true
  mono : ∀ (R R' : Nat → Prop) (w w' : World) x cs, (∀ g, R g → R' g ∧ w'.heap[g]? = w.heap[g]?) → rep R w x cs → rep R' w' x cs

class Flat (α : Type) where
  sz : Nat
  bytes : Nat
  enc : α → List Value
  pos : 0 < sz
  len : ∀ x, (enc x).length = sz
  one : ∀ x, ∀ u ∈ enc x, u.oneCell' = true

instance {α : Type} [Flat α] : Rep α where
  sz := Flat.sz α
  bytes := Flat.bytes α
  rep := fun _ _ x cs => cs = Flat.enc x
  len := fun _ _ x cs h => by subst h; exact Flat.len x
  one := fun _ _ x cs h => by subst h; exact Flat.one x
  mono := fun _ _ _ _ _ _ _ h => h

instance : Flat Int where
  sz := 1
  bytes := 8
  enc := fun x => [.int .i64 x]
  pos := by decide
  len := fun _ => rfl
  one := fun _ u hu => by simp at hu; subst hu; rfl
instance : Flat Bool where
  sz := 1
  bytes := 1
  enc := fun x => [.bool x]
  pos := by decide
  len := fun _ => rfl
  one := fun _ u hu => by simp at hu; subst hu; rfl
instance : Flat UInt8 where
  sz := 1
  bytes := 1
  enc := fun x => [.int .u8 x.toNat]
  pos := by decide
  len := fun _ => rfl
  one := fun _ u hu => by simp at hu; subst hu; rfl
instance : Flat (Int × Int) where
  sz := 2
  bytes := 16
  enc := fun x => [.int .i64 x.1, .int .i64 x.2]
  pos := by decide
  len := fun _ => rfl
  one := fun _ u hu => by simp at hu; rcases hu with rfl | rfl <;> rfl

def pB : Value → Nat
  | .slice (some a) _ _ => a.block
  | _ => 0
def pO : Value → Nat
  | .slice (some a) _ _ => a.off
  | _ => 0

theorem CellsAt.mono {w w' : World} {b o : Nat} {cs : List Value} (h : CellsAt w b o cs) (hb : w'.heap[b]? = w.heap[b]?) : CellsAt w' b o cs := fun j u hu => by
  rw [← h j u hu]; exact World.cell?_of_block hb

/-- The slice value v reads as the list l, in blocks of R. -/
def Sl {α : Type} [Rep α] (R : Nat → Prop) (w : World) (v : Value) (l : List α) : Prop :=
  ∃ A c, v = .slice A l.length c ∧ l.length ≤ c ∧ (l ≠ [] → ∃ b o, A = some ⟨b, o, none⟩) ∧
    ∀ (i : Nat) (x : α), l[i]? = some x → R (pB v) ∧ ∃ cs, Rep.rep R w x cs ∧ CellsAt w (pB v) (pO v + i * Rep.sz α) cs

section
variable {α : Type} [Rep α] {R R' : Nat → Prop} {w w' : World} {v : Value} {l : List α}

theorem Sl.mono (h : Sl R w v l) (hr : ∀ g, R g → R' g ∧ w'.heap[g]? = w.heap[g]?) : Sl R' w' v l := by
  obtain ⟨A, c, hv, hc, hA, hi⟩ := h
  refine ⟨A, c, hv, hc, hA, fun i x hx => ?_⟩
  obtain ⟨hR, cs, hrep, hcell⟩ := hi i x hx
  exact ⟨(hr _ hR).1, cs, Rep.mono R R' w w' x cs hr hrep, hcell.mono (hr _ hR).2⟩
theorem Sl.nil (R : Nat → Prop) (w : World) : Sl (α := α) R w (.slice none 0 0) [] := ⟨none, 0, rfl, Nat.le_refl _, fun h => absurd rfl h, fun i x hx => by simp at hx⟩
theorem Sl.val (h : Sl R w v l) : ∃ A c, v = .slice A l.length c := let ⟨A, c, hv, _⟩ := h; ⟨A, c, hv⟩
theorem Sl.of_old {w0 : World} {T : Nat → Prop} {L : List Chunk} (h : Sl (Old w0 T) w0 v l) (hm : Mem w0 T L w) : Sl (Old w0 T) w v l := h.mono fun g hg => ⟨hg, hm.old g hg⟩
theorem Sl.to_call {w0 : World} {T : Nat → Prop} {L : List Chunk} (h : Sl (Old w0 T) w0 v l) (hm : Mem w0 T L w) : Sl (Old w No) w v l := h.mono fun g hg => ⟨⟨Nat.lt_of_lt_of_le hg.1 hm.chg.size, id⟩, hm.old g hg⟩
theorem Sl.to_callT {w0 : World} {T : Nat → Prop} {L : List Chunk} {k : Nat} {c : Chunk} (h : Sl (Old w0 T) w0 v l) (hm : Mem w0 T L w) (hk : L[k]? = some c) : Sl (Old w c.D) w v l := h.mono fun g hg => ⟨hm.old_old hk g hg, hm.old g hg⟩
end

theorem Sl.rep {α : Type} [Rep α] {R : Nat → Prop} {w : World} {v : Value} {l : List α} (h : Sl R w v l) {i : Int} {x : α} (hx : idx l i = some x) : ∃ cs, Rep.rep R w x cs ∧ CellsAt w (pB v) (pO v + i.toNat * Rep.sz α) cs := by
  obtain ⟨_, _, _, _, _, hi⟩ := h
  exact (hi _ x (idx_some hx).2.2).2
theorem Sl.cells {α : Type} [Flat α] {R : Nat → Prop} {w : World} {v : Value} {l : List α} (h : Sl R w v l) {i : Int} {x : α} (hx : idx l i = some x) : CellsAt w (pB v) (pO v + i.toNat * Flat.sz α) (Flat.enc x) := by
  obtain ⟨cs, hr, hc⟩ := h.rep hx
  have : cs = Flat.enc x := hr
  subst this
  exact hc

instance {α : Type} [Rep α] : Rep (List α) where
  sz := 1
  bytes := 24
  rep := fun R w l cs => ∃ v, cs = [v] ∧ Sl R w v l
  len := fun _ _ _ _ ⟨_, h, _⟩ => by subst h; rfl
  one := fun _ _ _ _ ⟨v, h, hs⟩ u hu => by
    obtain ⟨A, c, hv⟩ := hs.val
    subst h
    simp at hu
    subst hu
    rw [hv]; rfl
  mono := fun _ _ _ _ _ _ hr ⟨v, h, hs⟩ => ⟨v, h, hs.mono hr⟩

/-! ### A list that the call owns -/
def ownC (e sz : Nat) (v : Value) (n : Nat) (xs : List Value) : Chunk where
  D := fun g => v.ownBlock = some g
  φ := fun w => w.ownsRow 0 e sz v n xs
  loc := fun w w' h hφ => by
    refine ⟨hφ.1, ?_⟩
    rcases hφ.2 with hn | ⟨g, cap, cur, rfl, hb, hgg, rest⟩
    · exact .inl hn
    · exact .inr ⟨g, cap, cur, rfl, hb, (h g (by simp [Value.ownBlock])).trans hgg, rest⟩
  lt := fun w hφ g hg => (hφ.lt g hg).2

def ownL {α : Type} [Flat α] (e : Nat) (v : Value) (l : List α) : Chunk := ownC e (Flat.sz α) v l.length (l.flatMap Flat.enc)

theorem flat_get {α : Type} [Flat α] : ∀ (l : List α) (i : Nat) (x : α) (j : Nat) (u : Value), l[i]? = some x → (Flat.enc x)[j]? = some u → (l.flatMap Flat.enc)[i * Flat.sz α + j]? = some u
  | [], i, x, j, u, h, _ => by simp at h
  | y :: l, 0, x, j, u, h, hu => by
    simp at h
    subst h
    rw [List.flatMap_cons, List.getElem?_append_left (by simpa using (List.getElem?_eq_some_iff.1 hu).1)]
    simpa using hu
  | y :: l, i + 1, x, j, u, h, hu => by
    simp at h
    rw [List.flatMap_cons, List.getElem?_append_right (by rw [Flat.len, Nat.add_mul]; omega), Flat.len]
    have := flat_get l i x j u h hu
    rw [← this]
    congr 1
    rw [Nat.add_mul]; omega

theorem flat_len {α : Type} [Flat α] (l : List α) : (l.flatMap (Flat.enc (α := α))).length = l.length * Flat.sz α := by
  induction l with
  | nil => simp
  | cons x l ih => rw [List.flatMap_cons, List.length_append, ih, Flat.len, List.length_cons, Nat.add_mul]; omega

theorem sl_of_own {α : Type} [Flat α] {w : World} {e : Nat} {v : Value} {l : List α} (h : (ownL e v l).φ w) : Sl (ownL e v l).D w v l := by
  have h' : w.ownsRow 0 e (Flat.sz α) v l.length (l.flatMap Flat.enc) := h
  rcases h'.2 with ⟨hv, hn⟩ | ⟨g, cap, cur, hv, _, hg, hnc, _, _, _⟩
  · have hl : l = [] := List.eq_nil_of_length_eq_zero hn
    subst hl
    subst hv
    exact Sl.nil _ _
  · refine ⟨some ⟨g, 0, none⟩, cap, hv, hnc, fun _ => ⟨g, 0, rfl⟩, fun i x hx => ?_⟩
    have hob : v.ownBlock = some g := by rw [hv]; rfl
    refine ⟨?_, _, rfl, fun j u hu => ?_⟩
    · show v.ownBlock = some (pB v)
      rw [hv]; rfl
    · have hc := h'.cells hob (i * Flat.sz α + j) u (flat_get l i x j u hx hu)
      have hadd : (⟨g, 0, none⟩ : Addr).add (i * Flat.sz α + j) = ⟨g, i * Flat.sz α + j, none⟩ := by unfold Addr.add; split <;> simp_all
      rw [hadd] at hc
      have e1 : pB v = g := by rw [hv]; rfl
      have e2 : pO v = 0 := by rw [hv]; rfl
      rw [e1, e2, ← hc]
      congr 2
      show 0 + i * Flat.sz α + j = _
      omega

theorem Mem.sl {α : Type} [Flat α] {w0 w : World} {T : Nat → Prop} {L : List Chunk} (hm : Mem w0 T L w) (k : Nat) {e : Nat} {v : Value} {l : List α} (hk : L[k]? = some (ownL e v l)) : Sl (ownL e v l).D w v l := sl_of_own (hm.get hk)
theorem Mem.sl_call {α : Type} [Flat α] {w0 w : World} {T : Nat → Prop} {L : List Chunk} (hm : Mem w0 T L w) (k : Nat) {e : Nat} {v : Value} {l : List α} (hk : L[k]? = some (ownL e v l)) : Sl (Old w No) w v l :=
  (hm.sl k hk).mono fun g hg => ⟨⟨(ownL e v l).lt w (hm.get hk) g hg, id⟩, rfl⟩
theorem Mem.sl_callT {α : Type} [Flat α] {w0 w : World} {T : Nat → Prop} {L : List Chunk} (hm : Mem w0 T L w) (k j : Nat) {e : Nat} {v : Value} {l : List α} {c : Chunk} (hk : L[k]? = some (ownL e v l)) (hj : L[j]? = some c) (hne : k ≠ j) : Sl (Old w c.D) w v l :=
  (hm.sl k hk).mono fun g hg => ⟨⟨(ownL e v l).lt w (hm.get hk) g hg, pairwise_at disj_symm hm.disj hk hj hne g hg⟩, rfl⟩
theorem Mem.addNil {α : Type} [Flat α] {w0 w : World} {T : Nat → Prop} {L : List Chunk} (hm : Mem w0 T L w) (e : Nat) : Mem w0 T (ownL e (.slice none 0 0) ([] : List α) :: L) w :=
  hm.add (Chg.refl _ _) (World.ownsRow_nil w 0 e _) (fun g hg => by simp [ownL, ownC, Value.ownBlock] at hg)
end Go.Gv
namespace Go.Gv
open Go.RowKit
section
variable {P : Program} {n : Nat} {env : Env} {w w0 : World} {T : Nat → Prop} {L : List Chunk} {d : Option Nat} {ty : TypeId} {pos : String} {af : Array Edge} {g : Option (Nat × Bool)} {x y : Operand} {v u : Value} {t : TypeId}

theorem map_some {α β : Type} {f : α → β} {o : Option α} {b : β} (h : o.map f = some b) : ∃ a, o = some a ∧ f a = b := by
  cases o with
  | none => cases h
  | some a => exact ⟨a, rfl, by simpa using h⟩

theorem run_isAgg_t {sz : Nat} (h : TAgg P t sz) : (isAgg t).run P w = .ok true w := by
  obtain ⟨d, hd, hb⟩ := map_some h.1
  unfold isAgg
  cases d <;> simp [isAggD] at hb <;> simp [run_underlying hd]
theorem run_isAgg_f (h : TOne P t) : (isAgg t).run P w = .ok false w := by
  obtain ⟨d, hd, hb⟩ := map_some h.1
  unfold isAgg
  cases d <;> simp [isAggD] at hb <;> simp [run_underlying hd]
theorem run_sizeOf_t {sz : Nat} (h : (P.info? t).map (·.size) = some sz) : (sizeOf t).run P w = .ok sz w := by
  obtain ⟨i, hi, hb⟩ := map_some h
  subst hb
  simp [sizeOf, typeInfo, hi]

/-! addresses -/
theorem rd_fld {b o f off : Nat} (ht : TFld P t f off) (hx : evo env x = some (.pointer (some ⟨b, o, none⟩))) : Rd P n env ⟨d, .fieldAddr t x f, ty, pos, af, g⟩ w (.pointer (some ⟨b, o + off, none⟩)) := by
  unfold TFld at ht
  cases hu : P.underlying t with
  | none => simp [hu] at ht
  | some td =>
    rw [hu] at ht
    cases td <;> try (simp at ht; done)
    case struct fs =>
      cases hf : fs[f]? with
      | none => simp [hf] at ht
      | some fd =>
        simp only [hf, Option.bind_some] at ht
        obtain ⟨i, hi, hb⟩ := map_some ht
        simp only [Prod.mk.injEq] at hb
        exact rd_fieldAddr hu hf hi hb.2 hb.1 hx

theorem rd_index {α : Type} [Rep α] {e : Nat} {R : Nat → Prop} {w1 : World} {l : List α} {kk : IntKind} {j : Int} {xe : α} (ht : TSlice P t e (Rep.sz α)) (hx : evo env x = some v) (hy : evo env y = some (.int kk j)) (hv : Sl R w1 v l) (hj : idx l j = some xe) :
    Rd P n env ⟨d, .indexAddr t x y, ty, pos, af, g⟩ w (.pointer (some ⟨pB v, pO v + j.toNat * Rep.sz α, none⟩)) := by
  obtain ⟨i, hi, hsz⟩ := map_some ht.2
  obtain ⟨h0, h1, h2⟩ := idx_some hj
  obtain ⟨A, c, hvv, hc, hA, _⟩ := hv
  obtain ⟨b, o, rfl⟩ := hA (by rintro rfl; simp at h2)
  have e1 : pB v = b := by rw [hvv]; rfl
  have e2 : pO v = o := by rw [hvv]; rfl
  rw [e1, e2]
  exact rd_indexAddr ht.1 hi hsz (by rw [hx, hvv]) hy h0 h1

/-! loads -/
theorem rd_ld1 {b o off : Nat} {cs : List Value} (ht : TOne P t) (hx : evo env x = some (.pointer (some ⟨b, o + off, none⟩))) (hc : CellsAt w b o cs) (hu : cs[off]? = some u) : Rd P n env ⟨d, .load t x, ty, pos, af, g⟩ w u := rd_mk fun ρ hρ => by
  simp [execOp, hρ _ _ hx, Instr.loadAt, Instr.sureAddr, loadVar, run_isAgg_f ht, hc off u hu]
theorem rd_ld {b o sz : Nat} {cs : List Value} (ht : TAgg P t sz) (hx : evo env x = some (.pointer (some ⟨b, o, none⟩))) (hc : CellsAt w b o cs) (hsz : cs.length = sz) : Rd P n env ⟨d, .load t x, ty, pos, af, g⟩ w (.agg cs.toArray) := rd_mk fun ρ hρ => by
  subst hsz
  have hl := run_loadCells_list (P := P) w ⟨b, o, none⟩ cs (fun j v hj => by
    have hadd : (⟨b, o, none⟩ : Addr).add j = ⟨b, o + j, none⟩ := by unfold Addr.add; split <;> simp_all
    rw [hadd]; exact hc j v hj)
  simp [execOp, hρ _ _ hx, Instr.loadAt, Instr.sureAddr, loadVar, run_isAgg_t ht, run_sizeOf_t ht.2, hl]

/-! struct values -/
def evp (env : Env) : List (Nat × Operand) → Option (List (Nat × Value))
  | [] => some []
  | (i, x) :: r => match evo env x, evp env r with
    | some v, some l => some ((i, v) :: l)
    | _, _ => none
theorem evp_map {ρ : Operand → Value} (hρ : ∀ x v, evo env x = some v → ρ x = v) : ∀ {ps : List (Nat × Operand)} {vs}, evp env ps = some vs → ps.map (fun p => (p.1, ρ p.2)) = vs
  | [], _, h => by simp [evp] at h; subst h; rfl
  | (i, x) :: r, vs, h => by
    simp only [evp] at h
    cases hx : evo env x with
    | none => simp [hx] at h
    | some v =>
      cases hr : evp env r with
      | none => simp [hx, hr] at h
      | some l =>
        simp [hx, hr] at h
        subst h
        simp [hρ x v hx, evp_map hρ hr]

theorem rd_build {ps : List (Nat × Operand)} {vs : List (Nat × Value)} {cs : Array Value} (hp : evp env ps = some vs) (hb : P.built t vs = some cs) : Rd P n env ⟨d, .build t ps.toArray, ty, pos, af, g⟩ w (.agg cs) := rd_mk fun ρ hρ => by
  have h1 : (Array.map (fun p : Nat × Operand => (p.1, ρ p.2)) ps.toArray) = vs.toArray := by
    rw [List.map_toArray, evp_map hρ hp]
  have hr := run_build (P := P) w t vs.toArray cs (by simpa using hb)
  simp only [execOp]
  rw [show (fun (x : Nat × Operand) => match x with | (i, x) => (i, ρ x)) = (fun p => (p.1, ρ p.2)) from rfl, h1]
  simp [hr]

/-! new blocks -/
theorem ef_alloc {sz : Nat} {z : Value} {cs : List Value} (hm : Mem w0 T L w) (ht : TZero P t sz z) (hz : z.cells.toList = cs) :
    Ef P n env ⟨d, .alloc t, ty, pos, af, g⟩ w (fun v w' => ∃ b, v = .pointer (some ⟨b, 0, none⟩) ∧ Mem w0 T (blk b t cs :: L) w') := fun a ha next Q hn => by
  obtain ⟨i, hi, hb⟩ := map_some ht
  simp only [Prod.mk.injEq] at hb
  subst hz
  have hr : (execOp a.eval ⟨d, .alloc t, ty, pos, af, g⟩).run P w = .ok (.value (.pointer (some ⟨w.heap.size, 0, none⟩))) (w.alloc (.cells z.cells t)) := by
    simp [execOp, Instr.alloc, zeroValue, typeInfo, hi, hb.2, newVar, newRow]
  unfold Oper.wp
  rw [hr]
  refine hn _ _ ⟨_, rfl, hm.add (Chg.alloc _ _ _) ?_ ?_⟩
  · show (w.alloc _).heap[w.heap.size]? = _
    simpa using heap_alloc_new w (.cells z.cells t)
  · intro k hk
    have : k = w.heap.size := hk
    omega

theorem ef_box {cs : List Value} (hm : Mem w0 T L w) (hx : evo env x = some v) (hz : v.cells.toList = cs) :
    Ef P n env ⟨d, .box t x, ty, pos, af, g⟩ w (fun v w' => ∃ b, v = .pointer (some ⟨b, 0, none⟩) ∧ Mem w0 T (blk b t cs :: L) w') := fun a ha next Q hn => by
  subst hz
  have hr : (execOp a.eval ⟨d, .box t x, ty, pos, af, g⟩).run P w = .ok (.value (.pointer (some ⟨w.heap.size, 0, none⟩))) (w.alloc (.cells v.cells t)) := by
    have := ha.eval hx
    generalize a.eval = ρ at this ⊢
    simp [execOp, Instr.box, newVar, newRow, this]
  unfold Oper.wp
  rw [hr]
  refine hn _ _ ⟨_, rfl, hm.add (Chg.alloc _ _ _) ?_ ?_⟩
  · show (w.alloc _).heap[w.heap.size]? = _
    simpa using heap_alloc_new w (.cells v.cells t)
  · intro k hk
    have : k = w.heap.size := hk
    omega

/-! stores into a block that is known whole -/
theorem setCell_blk {b t off : Nat} {cs : List Value} (hφ : (blk b t cs).φ w) (u : Value) : (blk b t (cs.set off u)).φ (w.setCell ⟨b, off, none⟩ u) := by
  have h : w.heap[b]? = some (.cells cs.toArray t (0, 0)) := hφ
  show (w.setCell ⟨b, off, none⟩ u).heap[b]? = _
  simp [World.setCell, Array.getElem?_modify, h]
theorem chg_setCell (p : Addr) (u : Value) : Chg (fun k => k = p.block) w (w.setCell p u) :=
  ⟨rfl, rfl, rfl, by simp [World.setCell], fun k _ hk => Below.heap_setCell w p u k (fun e => hk e)⟩

theorem run_st1 {b o : Nat} {ρ : Operand → Value} {oldv : Value} (ht : TOne P t) (hx : ρ x = .pointer (some ⟨b, o, none⟩)) (hy : ρ y = u) (h1 : u.oneCell' = true) (hc : w.cell? ⟨b, o, none⟩ = some oldv) (hf : w.frozen? ⟨b, o, none⟩ = false) :
    (execOp ρ ⟨d, .store t x y, ty, pos, af, g⟩).run P w = .ok .skip (w.setCell ⟨b, o, none⟩ u) := by
  have hcells : u.cells = #[u] := by cases u <;> first | rfl | cases h1
  have hst := run_store P w ⟨b, o, none⟩ u .plain h1
  rw [hc] at hst
  simp only [hf, Bool.false_eq_true, if_false] at hst
  have ha0 : (⟨b, o, none⟩ : Addr).add 0 = ⟨b, o, none⟩ := rfl
  simp [execOp, hx, hy, Instr.storeAt, Instr.sureAddr, storeVar, run_sizeOf_t ht.2, hcells, storeCells, ha0, hst]

theorem frozen_of_blk {b t : Nat} {cs : List Value} (hφ : (blk b t cs).φ w) (o : Nat) : w.frozen? ⟨b, o, none⟩ = false := by
  have h : w.heap[b]? = some (.cells cs.toArray t (0, 0)) := hφ
  simp [World.frozen?, h]

theorem ef_st1 {b o off tb k : Nat} {cs : List Value} {oldv : Value} (hm : Mem w0 T L w) (ht : TOne P t) (hx : evo env x = some (.pointer (some ⟨b, o, none⟩))) (ho : o = off) (hy : evo env y = some u) (h1 : u.oneCell' = true)
    (hk : L[k]? = some (blk b tb cs)) (hu : cs[off]? = some oldv) :
    Ef P n env ⟨d, .store t x y, ty, pos, af, g⟩ w (fun _ w' => Mem w0 T (L.set k (blk b tb (cs.set off u))) w') := fun a ha next Q hn => by
  subst ho
  have hφ := hm.get hk
  have hc := cells_blk hφ o oldv hu
  rw [Nat.zero_add] at hc
  unfold Oper.wp
  rw [run_st1 ht (ha.eval hx) (ha.eval hy) h1 hc (frozen_of_blk hφ o)]
  exact hn undef _ (hm.upd hk (chg_setCell ⟨b, o, none⟩ u) (setCell_blk hφ u) (fun g hg => .inl hg))

/-- A whole struct is stored into its own block. -/
theorem ef_stw {b tb k sz : Nat} {cs : List Value} {nc : Array Value} (hm : Mem w0 T L w) (ht : TAgg P t sz) (hx : evo env x = some (.pointer (some ⟨b, 0, none⟩))) (hy : evo env y = some (.agg nc)) (h1 : ∀ u ∈ nc.toList, u.oneCell' = true)
    (hk : L[k]? = some (blk b tb cs)) (hl : cs.length = nc.size) (hsz : nc.size = sz) :
    Ef P n env ⟨d, .store t x y, ty, pos, af, g⟩ w (fun _ w' => Mem w0 T (L.set k (blk b tb nc.toList)) w') := fun a ha next Q hn => by
  subst hsz
  have hφ : w.heap[b]? = some (.cells cs.toArray tb (0, 0)) := hm.get hk
  have hst := run_storeCells_at P b 0 tb nc.toList 0 cs.toArray w hφ (by simp [hl]) h1
  have hxv := ha.eval hx
  have hyv := ha.eval hy
  have hcells : (cs.toArray.toList.take (0 + 0) ++ nc.toList ++ cs.toArray.toList.drop (0 + 0 + nc.toList.length)).toArray = nc := by
    simp [← hl]
  rw [hcells] at hst
  have hr : (execOp a.eval ⟨d, .store t x y, ty, pos, af, g⟩).run P w = .ok .skip (w.setRow b nc) := by
    generalize a.eval = ρ at hxv hyv ⊢
    simp [execOp, hxv, hyv, Instr.storeAt, Instr.sureAddr, storeVar, run_sizeOf_t ht.2, Value.cells, hst]
  unfold Oper.wp
  rw [hr]
  refine hn undef _ (hm.upd hk (Chg.setRow _ _ _) ?_ (fun g hg => .inl hg))
  show (w.setRow b nc).heap[b]? = _
  simpa using setRow_heap w b cs.toArray nc tb (0, 0) hφ

/-! calls -/
def evl (env : Env) : List Operand → Option (List Value)
  | [] => some []
  | x :: r => match evo env x, evl env r with
    | some v, some l => some (v :: l)
    | _, _ => none
theorem evl_map {ρ : Operand → Value} (hρ : ∀ x v, evo env x = some v → ρ x = v) : ∀ {ps : List Operand} {vs}, evl env ps = some vs → ps.map ρ = vs
  | [], _, h => by simp [evl] at h; subst h; rfl
  | x :: r, vs, h => by
    simp only [evl] at h
    cases hx : evo env x with
    | none => simp [hx] at h
    | some v =>
      cases hr : evl env r with
      | none => simp [hx, hr] at h
      | some l =>
        simp [hx, hr] at h
        subst h
        simp [hρ x v hx, evl_map hρ hr]

theorem evn {env : Env} : evl env [] = some [] := rfl
theorem evc {env : Env} {x : Operand} {v : Value} {r : List Operand} {l : List Value} (hx : evo env x = some v) (hr : evl env r = some l) : evl env (x :: r) = some (v :: l) := by
  simp [evl, hx, hr]

/-- A call that returns. -/
def CallsR (P : Program) (f : Nat) (vs : List Value) (w : World) (R : Value → World → Prop) : Prop := Calls P f vs.toArray w fun e w' => ∃ v, e = .returned v ∧ R v w'

theorem CallsR.mono {f : Nat} {vs : List Value} {R R' : Value → World → Prop} (h : CallsR P f vs w R) (hr : ∀ v w', R v w' → R' v w') : CallsR P f vs w R' :=
  Calls.mono h fun _ _ ⟨v, he, hR⟩ => ⟨v, he, hr _ _ hR⟩

def TFn (P : Program) (f : Nat) : Prop := ∃ fn c, P.funcs[f]? = some fn ∧ fn.body = some c ∧ (fn.name == "runtime.NumGoroutine") = false

theorem ef_call {f : Nat} {as : List Operand} {at_ : Array TypeId} {vs : List Value} {R : Value → World → Prop} (ht : TFn P f) (ha : evl env as = some vs) (h : CallsR P f vs w R) :
    Ef P n env ⟨d, .call { callee := .value (.func f), args := as.toArray, argTypes := at_ }, ty, pos, af, g⟩ w R := fun a hag next Q hn => by
  have hm := evl_map (fun x v hx => hag.eval hx) ha
  have hr : (execOp a.eval ⟨d, .call { callee := .value (.func f), args := as.toArray, argTypes := at_ }, ty, pos, af, g⟩).run P w = .ok (.enter f vs.toArray) w := by
    have h1 : a.eval (.func f) = .func (.func f) #[] #[] := rfl
    obtain ⟨fn, c, hf, hb, hnm⟩ := ht
    have hnm' : ¬ fn.name = "runtime.NumGoroutine" := by simpa using hnm
    generalize a.eval = ρ at hm h1 ⊢
    simp [execOp, resolve, invoke, Deferred.ofValue, callFunc, h1, hm, go_sem, hf, hb, hnm']
  unfold Oper.wp
  rw [hr]
  exact Calls.mono h fun e w' ⟨v, he, hR⟩ => by subst he; exact hn v w' hR

/-! entering and leaving a function -/
def zipEnv : Nat → List Value → Env
  | _, [] => []
  | k, v :: r => (k, v) :: zipEnv (k + 1) r

def retQ (P : Program) (n : Nat) (fn : Func) (R : Value → World → Prop) : Exit → Env → World → Prop
  | .ret, env, w => ∃ v, (∀ a, Agree n env a → (results fn a.tmps).run P w = .ok v w) ∧ R v w
  | .normal, env, w => ∃ v, (∀ a, Agree n env a → (results fn a.tmps).run P w = .ok v w) ∧ R v w
  | _, _, _ => False

theorem get_zipEnv : ∀ (vs : List Value) (k t : Nat) (v : Value), Gv.get (zipEnv k vs) t = some v → k ≤ t ∧ vs[t - k]? = some v
  | [], _, _, _, h => by simp [zipEnv, Gv.get] at h
  | u :: r, k, t, v, h => by
    simp only [zipEnv, Gv.get] at h
    cases hb : Nat.beq k t
    · rw [hb] at h
      obtain ⟨h1, h2⟩ := get_zipEnv r (k + 1) t v h
      refine ⟨by omega, ?_⟩
      rw [show t - k = (t - (k + 1)) + 1 by omega]
      simpa using h2
    · rw [hb] at h
      have := Nat.eq_of_beq_eq_true hb
      subst this
      simpa using h

theorem fn_ok {f : Nat} {fn : Func} {c : Code} {vs : List Value} {R : Value → World → Prop} (hf : P.funcs[f]? = some fn) (hb : fn.body = some c) (hn : fn.ntmps = n) (hl : Nat.ble vs.length n = true)
    (h : CW P n c (retQ P n fn R) (zipEnv 0 vs) w) : CallsR P f vs w R := by
  have hl' : vs.length ≤ n := Nat.le_of_ble_eq_true hl
  subst hn
  refine calls_of_wp hf hb (wp_mono (h _ ⟨rfl, by simp; omega, fun t v hv => ?_⟩) ?_)
  · obtain ⟨_, h2⟩ := get_zipEnv vs 0 t v hv
    have hlt := (List.getElem?_eq_some_iff.1 h2).1
    simp only [Nat.sub_zero] at h2 hlt
    have : (vs.toArray ++ Array.replicate (fn.ntmps - vs.toArray.size) undef)[t]? = some v := by
      rw [Array.getElem?_append_left (by simpa using hlt)]
      simpa using h2
    rw [Array.getD_eq_getD_getElem?]
    show ((vs.toArray ++ Array.replicate (fn.ntmps - vs.toArray.size) undef)[t]?).getD undef = v
    rw [this]
    rfl
  · rintro e a w' ⟨env, hag, hq⟩
    cases e with
    | ret => obtain ⟨v, hv, hR⟩ := hq; exact ⟨hag.defers, v, hv a hag, v, rfl, hR⟩
    | normal => obtain ⟨v, hv, hR⟩ := hq; exact ⟨hag.defers, v, hv a hag, v, rfl, hR⟩
    | _ => exact hq.elim

theorem ret1 {fn : Func} {t : Nat} {R : Value → World → Prop} (hr : fn.results = #[.tmp t]) (hv : Gv.get env t = some v) (h : R v w) : retQ P n fn R .ret env w :=
  ⟨v, fun a ha => by rw [results_tmp hr, ha.val t v hv], h⟩
theorem ret2 {fn : Func} {t1 t2 : Nat} {v1 v2 : Value} {R : Value → World → Prop} (hr : fn.results = #[.tmp t1, .tmp t2]) (h1 : Gv.get env t1 = some v1) (h2 : Gv.get env t2 = some v2) (h : R (.tuple #[v1, v2]) w) : retQ P n fn R .ret env w :=
  ⟨_, fun a ha => by rw [results_tmp2 hr, ha.val _ _ h1, ha.val _ _ h2], h⟩
theorem ret3 {fn : Func} {t1 t2 t3 : Nat} {v1 v2 v3 : Value} {R : Value → World → Prop} (hr : fn.results = #[.tmp t1, .tmp t2, .tmp t3]) (h1 : Gv.get env t1 = some v1) (h2 : Gv.get env t2 = some v2) (h3 : Gv.get env t3 = some v3) (h : R (.tuple #[v1, v2, v3]) w) : retQ P n fn R .ret env w :=
  ⟨_, fun a ha => by rw [results_tmp3 hr, ha.val _ _ h1, ha.val _ _ h2, ha.val _ _ h3], h⟩

theorem in64_some {x y : Int} (h : in64 x = some y) : y = x ∧ IntKind.i64.wrap x = x := by
  unfold in64 at h
  split at h
  · refine ⟨(Option.some.inj h).symm, ?_⟩
    rw [IntKind.wrap_i64]; omega
  · cases h
theorem rd_add64 {a b s : Int} {t' : TypeId} (hs : in64 (a + b) = some s) (hx : evo env x = some (.int .i64 a)) (hy : evo env y = some (.int .i64 b)) : Rd P n env ⟨d, .binOp .add t x y t', ty, pos, af, g⟩ w (.int .i64 s) := by
  obtain ⟨rfl, hw⟩ := in64_some hs
  have := rd_add (P := P) (n := n) (w := w) (d := d) (ty := ty) (pos := pos) (af := af) (g := g) (t := t) (t' := t') hx hy
  rwa [hw] at this
theorem rd_sub64 {a b s : Int} {t' : TypeId} (hs : in64 (a - b) = some s) (hx : evo env x = some (.int .i64 a)) (hy : evo env y = some (.int .i64 b)) : Rd P n env ⟨d, .binOp .sub t x y t', ty, pos, af, g⟩ w (.int .i64 s) := by
  obtain ⟨rfl, hw⟩ := in64_some hs
  have := rd_sub (P := P) (n := n) (w := w) (d := d) (ty := ty) (pos := pos) (af := af) (g := g) (t := t) (t' := t') hx hy
  rwa [hw] at this
theorem rd_mul64 {a b s : Int} {t' : TypeId} (hs : in64 (a * b) = some s) (hx : evo env x = some (.int .i64 a)) (hy : evo env y = some (.int .i64 b)) : Rd P n env ⟨d, .binOp .mul t x y t', ty, pos, af, g⟩ w (.int .i64 s) := by
  obtain ⟨rfl, hw⟩ := in64_some hs
  have := rd_mul (P := P) (n := n) (w := w) (d := d) (ty := ty) (pos := pos) (af := af) (g := g) (t := t) (t' := t') hx hy
  rwa [hw] at this
end

/-! where control goes on -/
section
variable {N : Env → World → Prop} {Q : Exit → Env → World → Prop} {env : Env} {w : World} {id j : Nat}
theorem qn_then (h : N env w) : thenQ N Q .normal env w := h
theorem qx_then (h : Q (.exit id) env w) : thenQ N Q (.exit id) env w := h
theorem qr_then (h : Q .ret env w) : thenQ N Q .ret env w := h
theorem qn_block (h : Q .normal env w) : blockQ id Q .normal env w := h
theorem qr_block (h : Q .ret env w) : blockQ id Q .ret env w := h
theorem qx_same (h : Q .normal env w) : blockQ id Q (.exit id) env w := by
  have : Nat.beq id id = true := Nat.beq_refl id
  simp only [blockQ, this]; exact h
theorem qx_other (hb : Nat.beq j id = false) (h : Q (.exit j) env w) : blockQ id Q (.exit j) env w := by
  simp only [blockQ, hb]; exact h
end

theorem Sub.tr {e1 e2 e3 : Env} (h : Sub e1 e2) (k : Sub e2 e3) : Sub e1 e3 := fun t v hv => k t v (h t v hv)

section
variable {P : Program} {n : Nat} {c : Code} {Q : Exit → Env → World → Prop} {env : Env} {w : World}
theorem cw_loop2 {σ ρ : Type} {f : σ → Option (σ ⊕ ρ)} {N : Nat} {s : σ} {r : ρ} {I : σ → Env → World → Prop} {X : Exit → Env → World → Prop} (h : iterN f N s = some r) (h0 : I s env w)
    (round : ∀ s x env w, f s = some x → (∀ r', x = .inr r' → r' = r) → I s env w → CW P n c (thenQ (fun env' w' => ∃ s', x = .inl s' ∧ I s' env' w') X) env w)
    (hX : ∀ e env w, X e env w → Q e env w) : CW P n (.loop c) Q env w := cw_mono hX (cw_loop I h h0 round)
theorem cw_join {X : Exit → Env → World → Prop} (h : CW P n c X env w) (hX : ∀ e env w, X e env w → Q e env w) : CW P n c Q env w := cw_mono hX h
theorem ret_sub {fn : Func} {R : Value → World → Prop} {e : Exit} {env env' : Env} (hs : Sub env' env) (h : retQ P n fn R e env' w) : retQ P n fn R e env w := by
  cases e with
  | ret => obtain ⟨v, hv, hR⟩ := h; exact ⟨v, fun a ha => hv a (hs.agree ha), hR⟩
  | normal => obtain ⟨v, hv, hR⟩ := h; exact ⟨v, fun a ha => hv a (hs.agree ha), hR⟩
  | _ => exact h.elim
theorem retn {fn : Func} {R : Value → World → Prop} (h : retQ P n fn R .ret env w) : retQ P n fn R .normal env w := h
theorem ret0 {fn : Func} {R : Value → World → Prop} (hr : fn.results = #[]) (h : R (.tuple #[]) w) : retQ P n fn R .ret env w :=
  ⟨_, fun a ha => by rw [results_none hr], h⟩

inductive ResV (P : Program) (env : Env) (w : World) : List ResultVar → List Value → Prop where
  | rn : ResV P env w [] []
  | rt {t : Nat} {v : Value} {rs : List ResultVar} {vs : List Value} (h : Gv.get env t = some v) (hr : ResV P env w rs vs) : ResV P env w (.tmp t :: rs) (v :: vs)
  | rc {t ty b sz : Nat} {cs : List Value} {rs : List ResultVar} {vs : List Value} (h : Gv.get env t = some (.pointer (some ⟨b, 0, none⟩))) (ht : TAgg P ty sz) (hc : CellsAt w b 0 cs) (hsz : cs.length = sz) (hr : ResV P env w rs vs) :
      ResV P env w (.cell t ty :: rs) (.agg cs.toArray :: vs)
  | ro {t ty b : Nat} {v : Value} {cs : List Value} {rs : List ResultVar} {vs : List Value} (h : Gv.get env t = some (.pointer (some ⟨b, 0, none⟩))) (ht : TOne P ty) (hc : CellsAt w b 0 cs) (hu : cs[0]? = some v) (hr : ResV P env w rs vs) :
      ResV P env w (.cell t ty :: rs) (v :: vs)

def resOne (tmps : Array Value) : ResultVar → Sem Value
  | .tmp t => pure (tmps.getD t undef)
  | .cell a t => do loadVar t (← asAddr (tmps.getD a undef))

theorem resV_run {env : Env} {rs : List ResultVar} {vs : List Value} (h : ResV P env w rs vs) {a : Act} (ha : Agree n env a) : (rs.mapM (resOne a.tmps)).run P w = .ok vs w := by
  induction h with
  | rn => simp
  | rt h hr ih => simp only [List.mapM_cons, resOne]; rw [ha.val _ _ h]; simp [ih]
  | rc h ht hc hsz hr ih =>
    subst hsz
    simp only [List.mapM_cons, resOne]
    rw [ha.val _ _ h]
    rename_i b cs _ _
    have hl := run_loadCells_list (P := P) w ⟨b, 0, none⟩ cs (fun j v hj => by
      have hadd : (⟨b, 0, none⟩ : Addr).add j = ⟨b, 0 + j, none⟩ := by unfold Addr.add; split <;> simp_all
      rw [hadd]; exact hc j v hj)
    simp [asAddr, loadVar, run_isAgg_t ht, run_sizeOf_t ht.2, hl, ih]
  | ro h ht hc hu hr ih =>
    simp only [List.mapM_cons, resOne]
    rw [ha.val _ _ h]
    have := hc 0 _ hu
    simp only [Nat.zero_add] at this
    simp [asAddr, loadVar, run_isAgg_f ht, this, ih]

theorem results_eq (fn : Func) (tmps : Array Value) : results fn tmps = (do
    let vs ← fn.results.mapM (resOne tmps)
    pure (if h : vs.size = 1 then vs[0] else .tuple vs)) := by
  unfold results
  congr 1

theorem retL1 {fn : Func} {R : Value → World → Prop} {rs : List ResultVar} {v : Value} {env : Env} (hr : fn.results = rs.toArray) (hv : ResV P env w rs [v]) (h : R v w) : retQ P n fn R .ret env w :=
  ⟨v, fun a ha => by
    have := resV_run hv ha
    rw [results_eq, hr]
    simp [Array.mapM_eq_mapM_toList, this], h⟩
theorem retLn {fn : Func} {R : Value → World → Prop} {rs : List ResultVar} {vs : List Value} {env : Env} (hr : fn.results = rs.toArray) (hv : ResV P env w rs vs) (hl' : Nat.beq vs.length 1 = false) (h : R (.tuple vs.toArray) w) : retQ P n fn R .ret env w :=
  ⟨_, fun a ha => by
    have hl : vs.length ≠ 1 := fun e => by rw [e] at hl'; cases hl'
    have := resV_run hv ha
    rw [results_eq, hr]
    simp [Array.mapM_eq_mapM_toList, this, hl], h⟩
end

section
variable {P : Program} {n : Nat} {env : Env} {w w0 : World} {T : Nat → Prop} {L : List Chunk} {d : Option Nat} {ty : TypeId} {pos : String} {af : Array Edge} {g : Option (Nat × Bool)} {x y : Operand} {v u : Value} {t : TypeId}

theorem gvx {g : Bool} (hx : evo env x = some (gV g v)) (hg : g = true) : evo env x = some v := by rw [hx, gV_t hg]

theorem wr64_eq (z : Int) : IntKind.i64.wrap z = wr64 z := by rw [IntKind.wrap_i64]; rfl
theorem rd_addw {a b : Int} {t' : TypeId} (hx : evo env x = some (.int .i64 a)) (hy : evo env y = some (.int .i64 b)) : Rd P n env ⟨d, .binOp .add t x y t', ty, pos, af, g⟩ w (.int .i64 (wr64 (a + b))) := wr64_eq (a + b) ▸ rd_add hx hy
theorem rd_mulw {a b : Int} {t' : TypeId} (hx : evo env x = some (.int .i64 a)) (hy : evo env y = some (.int .i64 b)) : Rd P n env ⟨d, .binOp .mul t x y t', ty, pos, af, g⟩ w (.int .i64 (wr64 (a * b))) := wr64_eq (a * b) ▸ rd_mul hx hy
theorem rd_neg64 {a s : Int} (hs : in64 (-a) = some s) (hx : evo env x = some (.int .i64 a)) : Rd P n env ⟨d, .unOp .neg t x, ty, pos, af, g⟩ w (.int .i64 s) := by
  obtain ⟨rfl, hw⟩ := in64_some hs
  have := rd_neg (P := P) (n := n) (w := w) (d := d) (ty := ty) (pos := pos) (af := af) (g := g) (t := t) hx
  rwa [hw] at this
theorem rd_quo64 {a b s : Int} {t' : TypeId} (hs : quo64 a b = some s) (hx : evo env x = some (.int .i64 a)) (hy : evo env y = some (.int .i64 b)) : Rd P n env ⟨d, .binOp .quo t x y t', ty, pos, af, g⟩ w (.int .i64 s) := by
  unfold quo64 at hs
  split at hs
  · cases hs
  · rename_i h0
    obtain ⟨rfl, hw⟩ := in64_some hs
    have := rd_quo (P := P) (n := n) (w := w) (d := d) (ty := ty) (pos := pos) (af := af) (g := g) (t := t) (t' := t') hx hy h0
    rwa [hw] at this
theorem rd_rem64 {a b s : Int} {t' : TypeId} (hs : rem64 a b = some s) (hx : evo env x = some (.int .i64 a)) (hy : evo env y = some (.int .i64 b)) : Rd P n env ⟨d, .binOp .rem t x y t', ty, pos, af, g⟩ w (.int .i64 s) := by
  unfold rem64 at hs
  split at hs
  · cases hs
  · rename_i h0
    have := os hs
    subst this
    exact rd_rem (P := P) (n := n) (w := w) (d := d) (ty := ty) (pos := pos) (af := af) (g := g) (t := t) (t' := t') hx hy h0

theorem rd_lenS {α : Type} [Rep α] {e sz : Nat} {R : Nat → Prop} {w1 : World} {l : List α} (ht : TSlice P t e sz) (hx : evo env x = some v) (hv : Sl R w1 v l) :
    Rd P n env ⟨d, .call { callee := .builtin .len, args := #[x], argTypes := #[t] }, ty, pos, af, g⟩ w (.int .i64 (l.length : Int)) := by
  obtain ⟨A, c, hvv⟩ := hv.val
  exact rd_len ht.1 (by rw [hx, hvv])

/-! slicing -/
def subV (v : Value) (lo hi : Int) (sz : Nat) : Value :=
  match v with
  | .slice A _ c => .slice (if c = lo.toNat then A else A.map (·.add (lo.toNat * sz))) (hi.toNat - lo.toNat) (c - lo.toNat)
  | v => v

theorem slc_some {α : Type} {l l' : List α} {lo hi : Int} (h : slc l lo hi = some l') : 0 ≤ lo ∧ lo ≤ hi ∧ hi ≤ l.length ∧ l' = (l.take hi.toNat).drop lo.toNat := by
  unfold slc at h
  split at h
  · rename_i hh; exact ⟨hh.1, hh.2.1, hh.2.2, (Option.some.inj h).symm⟩
  · cases h

theorem Sl.sub {α : Type} [Rep α] {R : Nat → Prop} {w : World} {v : Value} {l l' : List α} {lo hi : Int} (h : Sl R w v l) (hs : slc l lo hi = some l') : Sl R w (subV v lo hi (Rep.sz α)) l' := by
  obtain ⟨h0, h1, h2, rfl⟩ := slc_some hs
  obtain ⟨A, c, rfl, hc, hA, hi'⟩ := h
  have hlen : ((l.take hi.toNat).drop lo.toNat).length = hi.toNat - lo.toNat := by simp; omega
  refine ⟨_, c - lo.toNat, by rw [hlen]; rfl, by rw [hlen]; omega, fun hne => ?_, fun i x hx => ?_⟩
  · have : l ≠ [] := by rintro rfl; simp at hne
    obtain ⟨b, o, rfl⟩ := hA this
    split
    · exact ⟨b, o, rfl⟩
    · refine ⟨b, o + lo.toNat * Rep.sz α, ?_⟩
      simp only [Option.map_some, Addr.add]
      split
      · rename_i hz; simp [hz]
      · rfl
  · have hil : i < hi.toNat - lo.toNat := by
      rw [← hlen]; exact (List.getElem?_eq_some_iff.1 hx).1
    have hx' : l[lo.toNat + i]? = some x := by
      rw [List.getElem?_drop, List.getElem?_take] at hx
      split at hx
      · exact hx
      · cases hx
    obtain ⟨hR, cs, hrep, hcell⟩ := hi' _ _ hx'
    have hne : l ≠ [] := by rintro rfl; simp at hx'
    obtain ⟨b, o, rfl⟩ := hA hne
    have hcl : c ≠ lo.toNat := by omega
    have e1 : pB (subV (.slice (some ⟨b, o, none⟩) l.length c) lo hi (Rep.sz α)) = b := by
      simp only [subV, if_neg hcl, Option.map_some, pB, Addr.add]; split <;> rfl
    have e2 : pO (subV (.slice (some ⟨b, o, none⟩) l.length c) lo hi (Rep.sz α)) = o + lo.toNat * Rep.sz α := by
      simp only [subV, if_neg hcl, Option.map_some, pO, Addr.add]
      split
      · rename_i hz; simp [hz]
      · rfl
    rw [e1, e2]
    refine ⟨hR, cs, hrep, fun j u hu => ?_⟩
    have := hcell j u hu
    have e3 : o + lo.toNat * Rep.sz α + i * Rep.sz α + j = pO (.slice (some ⟨b, o, none⟩) l.length c) + (lo.toNat + i) * Rep.sz α + j := by
      simp only [pO, Nat.add_mul]; omega
    rw [e3]
    exact this

theorem run_slc {α : Type} [Rep α] {e : Nat} {R : Nat → Prop} {w1 : World} {l l' : List α} {lo hi : Int} {olo ohi : Option Operand} {ρ : Operand → Value} (ht : TSlice P t e (Rep.sz α)) (hx : ρ x = v) (hv : Sl R w1 v l) (hs : slc l lo hi = some l')
    (hlo : olo.map ρ = some (.int .i64 lo) ∨ (olo = none ∧ lo = 0)) (hhi : ohi.map ρ = some (.int .i64 hi) ∨ (ohi = none ∧ hi = l.length)) :
    (execOp ρ ⟨d, .slice t x olo ohi none, ty, pos, af, g⟩).run P w = .ok (.value (subV v lo hi (Rep.sz α))) w := by
  obtain ⟨h0, h1, h2, rfl⟩ := slc_some hs
  obtain ⟨A, c, rfl, hc, hA, _⟩ := hv
  have hsz := run_sizeOf_t (P := P) (w := w) ht.2
  have hhc : hi ≤ (c : Int) := by omega
  have hh0 : 0 ≤ hi := by omega
  have hb1 : (Instr.sliceBound (.int .i64 hi) c .sliceAcap).run P w = .ok hi.toNat w := by
    simp [Instr.sliceBound, asIntOf, hh0, hhc]
  have hb2 : (Instr.sliceBound (.int .i64 lo) hi.toNat .sliceB).run P w = .ok lo.toNat w := by
    have : lo ≤ (hi.toNat : Int) := by omega
    simp only [Instr.sliceBound, asIntOf, Sem.run_bind, Sem.run_pure, Result.andThen_ok, h0, this, and_self, if_true]
  have hB : (Instr.sliceBounds true l.length c (olo.map ρ) (ohi.map ρ) none).run P w = .ok (lo.toNat, hi.toNat, c) w := by
    rcases hlo with e1 | ⟨rfl, rfl⟩ <;> rcases hhi with e2 | ⟨rfl, rfl⟩
    · simp [Instr.sliceBounds, e1, e2, hb1, hb2]
    · simp only [Int.toNat_natCast] at hb2
      simp [Instr.sliceBounds, e1, hb2]
    · simp [Instr.sliceBounds, e2, hb1]
    · simp [Instr.sliceBounds]
  simp [execOp, hx, Instr.sliceAt, Instr.slice, run_underlying ht.1, hB, hsz, subV]

section
variable {α : Type} [Rep α] {e : Nat} {R : Nat → Prop} {w1 : World} {l l' : List α} {lo hi : Int} {xl xh : Operand}
theorem rd_slcLH (ht : TSlice P t e (Rep.sz α)) (hx : evo env x = some v) (hl : evo env xl = some (.int .i64 lo)) (hh : evo env xh = some (.int .i64 hi)) (hv : Sl R w1 v l) (hs : slc l lo hi = some l') :
    Rd P n env ⟨d, .slice t x (some xl) (some xh) none, ty, pos, af, g⟩ w (subV v lo hi (Rep.sz α)) := rd_mk fun ρ hρ =>
  run_slc ht (hρ _ _ hx) hv hs (.inl (by simp [hρ _ _ hl])) (.inl (by simp [hρ _ _ hh]))
theorem rd_slcH (ht : TSlice P t e (Rep.sz α)) (hx : evo env x = some v) (hh : evo env xh = some (.int .i64 hi)) (hv : Sl R w1 v l) (hs : slc l 0 hi = some l') :
    Rd P n env ⟨d, .slice t x none (some xh) none, ty, pos, af, g⟩ w (subV v 0 hi (Rep.sz α)) := rd_mk fun ρ hρ =>
  run_slc ht (hρ _ _ hx) hv hs (.inr ⟨rfl, rfl⟩) (.inl (by simp [hρ _ _ hh]))
end

/-! parts of memory picked out -/
theorem Mem.one {c : Chunk} (h : c.φ w) : Mem w c.D [c] w := ⟨Chg.refl _ _, by simpa using h, fun x hx g hg => by simp at hx; subst hx; exact .inr hg, List.pairwise_singleton _ _⟩

theorem pick_pair {R : Chunk → Chunk → Prop} (hs : ∀ a b, R a b → R b a) {L : List Chunk} (hp : L.Pairwise R) : ∀ (ks : List Nat) (L' : List Chunk), ks.Nodup → ks.map (fun k => L[k]?) = L'.map some → L'.Pairwise R
  | [], L', _, h => by
    have : L' = [] := by cases L' <;> simp_all
    subst this; exact List.Pairwise.nil
  | k :: ks, [], _, h => by simp at h
  | k :: ks, c :: L', hn, h => by
    simp only [List.map_cons, List.cons.injEq] at h
    rw [List.nodup_cons] at hn
    refine List.Pairwise.cons (fun b hb => ?_) (pick_pair hs hp ks L' hn.2 h.2)
    obtain ⟨j, hj⟩ := List.getElem?_of_mem hb
    have hj' : (ks.map (fun k => L[k]?))[j]? = some (some b) := by rw [h.2]; simp [hj]
    simp only [List.getElem?_map, Option.map_eq_some_iff] at hj'
    obtain ⟨k', hk', hb'⟩ := hj'
    exact pairwise_at hs hp h.1 hb' (fun e => hn.1 (e ▸ List.mem_of_getElem? hk'))

theorem Mem.pick (hm : Mem w0 T L w) (ks : List Nat) {L' : List Chunk} (hn : ks.Nodup) (h : ks.map (fun k => L[k]?) = L'.map some) : Mem w0 T L' w := by
  have hmem : ∀ c ∈ L', c ∈ L := fun c hc => by
    obtain ⟨j, hj⟩ := List.getElem?_of_mem hc
    have hj' : (ks.map (fun k => L[k]?))[j]? = some (some c) := by rw [h]; simp [hj]
    simp only [List.getElem?_map, Option.map_eq_some_iff] at hj'
    obtain ⟨k', _, hb'⟩ := hj'
    exact List.mem_of_getElem? hb'
  exact ⟨hm.chg, fun c hc => hm.own c (hmem c hc), fun c hc => hm.dom c (hmem c hc), pick_pair disj_symm hm.disj ks L' hn h⟩

theorem oc_nil : ∀ u ∈ ([] : List Value), u.oneCell' = true := fun _ h => by simp at h
theorem oc_cons {v : Value} {l : List Value} (h : v.oneCell' = true) (hl : ∀ u ∈ l, u.oneCell' = true) : ∀ u ∈ v :: l, u.oneCell' = true := fun u hu => by
  rcases List.mem_cons.1 hu with rfl | hu
  · exact h
  · exact hl u hu
theorem sl_one {α : Type} [Rep α] {R : Nat → Prop} {l : List α} (h : Sl R w v l) : v.oneCell' = true := by
  obtain ⟨A, c, hv⟩ := h.val; rw [hv]; rfl

/-! new lists, appends, stores into lists -/
def TElem (P : Program) (e sz bytes : Nat) (z : Value) : Prop := (P.info? e).map (fun i => (i.size, i.bytes, i.zero)) = some (sz, bytes, some z)
theorem TElem.ex {P : Program} {e sz bytes : Nat} {z : Value} (h : TElem P e sz bytes z) : ∃ i, P.info? e = some i ∧ i.size = sz ∧ i.bytes = bytes ∧ i.zero = some z := by
  obtain ⟨i, hi, hb⟩ := map_some h
  simp only [Prod.mk.injEq] at hb
  exact ⟨i, hi, hb.1, hb.2.1, hb.2.2⟩

theorem own_new {α : Type} [Flat α] {e : Nat} {cs : Array Value} {l : List α} (hl : l.flatMap Flat.enc = cs.toList) (h63 : l.length ≤ maxLen) :
    (ownL e (.slice (some ⟨w.heap.size, 0, none⟩) l.length l.length) l).φ (w.alloc (.cells cs e)) := by
  refine ⟨flat_len l, .inr ⟨w.heap.size, l.length, cs, rfl, Nat.zero_le _, heap_alloc_new w _, Nat.le_refl _, h63, ?_, ?_⟩⟩
  · rw [← flat_len l, hl]; simp
  · rw [← flat_len l, hl]; simp only [Array.length_toList]; rw [List.take_of_length_le (by simp)]

theorem own_new_D {α : Type} [Flat α] {e : Nat} {l : List α} {n c : Nat} : ∀ g, (ownL e (.slice (some ⟨w.heap.size, 0, none⟩) n c) l).D g → w.heap.size ≤ g := fun g hg => by
  have : some w.heap.size = some g := hg
  injection this with this
  omega

def bsl (P : Program) (t : Nat) (len : Nat) (vs : List (Nat × Value)) : Option (Array Value) :=
  match P.underlying t with
  | some (.slice e) => match P.info? e with
    | some i => match i.zero with
      | some z => if len * i.size ≤ 16777216 ∧ len * i.size ≠ 0 then Instr.fill (fun k => some (k * i.size, i.size)) ((Array.range (len * i.size)).map (z.cells[· % z.cells.size]!)) vs else none
      | none => none
    | none => none
  | _ => none

theorem ef_bslice {α : Type} [Flat α] {e sz len : Nat} {ps : List (Nat × Operand)} {vs : List (Nat × Value)} {cs : Array Value} {l : List α} (hm : Mem w0 T L w) (ht : TSlice P t e sz) (hp : evp env ps = some vs) (hb : bsl P t len vs = some cs)
    (hl : l.flatMap Flat.enc = cs.toList) (hlen : l.length = len) :
    Ef P n env ⟨d, .buildSlice t len ps.toArray, ty, pos, af, g⟩ w (fun v w' => Mem w0 T (ownL e v l :: L) w') := fun a ha next Q hn => by
  unfold bsl at hb
  rw [ht.1] at hb
  simp only at hb
  cases hi : P.info? e with
  | none => simp [hi] at hb
  | some i =>
    simp only [hi] at hb
    cases hz : i.zero with
    | none => simp [hz] at hb
    | some z =>
      simp only [hz] at hb
      split at hb
      case isFalse => cases hb
      case isTrue hsz =>
        have hρ := evp_map (fun x v hx => ha.eval hx) hp
        have h1 : (Array.map (fun p : Nat × Operand => (p.1, a.eval p.2)) ps.toArray) = vs.toArray := by rw [List.map_toArray, hρ]
        have hr : (execOp a.eval ⟨d, .buildSlice t len ps.toArray, ty, pos, af, g⟩).run P w = .ok (.value (.slice (some ⟨w.heap.size, 0, none⟩) len len)) (w.alloc (.cells cs e)) := by
          simp only [execOp]
          rw [show (fun (x : Nat × Operand) => match x with | (i, x) => (i, a.eval x)) = (fun p => (p.1, a.eval p.2)) from rfl, h1]
          have hsz' : ¬ (len * i.size > 16777216) := by omega
          simp [Instr.buildSlice, run_underlying ht.1, sizeOf, typeInfo, zeroValue, hi, hz, hsz.2, hsz', hb, newRow]
        unfold Oper.wp
        rw [hr]
        have hlm : l.length ≤ maxLen := by
          by_cases h0 : i.size = 0
          · exact absurd (by rw [h0]; simp) hsz.2
          · have h3 : len * 1 ≤ len * i.size := Nat.mul_le_mul_left _ (by omega)
            rw [hlen]; simp only [maxLen]; omega
        subst hlen
        exact hn _ _ (hm.add (Chg.alloc _ _ _) (own_new hl hlm) own_new_D)

theorem ef_bslice0 {α : Type} [Flat α] {e sz : Nat} (hm : Mem w0 T L w) (ht : TSlice P t e sz) :
    Ef P n env ⟨d, .buildSlice t 0 #[], ty, pos, af, g⟩ w (fun v w' => Mem w0 T (ownL e v ([] : List α) :: L) w') := fun a ha next Q hn => by
  have hr : (execOp a.eval ⟨d, .buildSlice t 0 #[], ty, pos, af, g⟩).run P w = .ok (.value (.slice (some ⟨w.heap.size, 0, none⟩) 0 0)) (w.alloc (.cells #[] e)) := by
    have hz : (sizeOf e).run P w = .ok sz w := run_sizeOf_t ht.2
    simp [execOp, Instr.buildSlice, run_underlying ht.1, hz, Instr.fill, newRow]
    congr 2
    exact Array.eq_empty_of_size_eq_zero (by simp)
  unfold Oper.wp
  rw [hr]
  exact hn _ _ (hm.add (Chg.alloc _ _ _) (own_new (l := ([] : List α)) rfl (by simp [maxLen])) own_new_D)

theorem flat_rep {α : Type} [Flat α] (n : Nat) (z : α) : (List.replicate n z).flatMap Flat.enc = (madeCells (Flat.enc z).toArray (n * Flat.sz α)).toList := by
  apply List.ext_getElem?
  intro j
  have hsz : (Flat.enc z).length = Flat.sz α := Flat.len z
  by_cases hj : j < n * Flat.sz α
  · have hpos : 0 < Flat.sz α := by
      rcases Nat.eq_zero_or_pos (Flat.sz α) with h0 | h0
      · rw [h0] at hj; simp at hj
      · exact h0
    have hq : j / Flat.sz α < n := Nat.div_lt_of_lt_mul (by rw [Nat.mul_comm]; exact hj)
    have hm : j % Flat.sz α < Flat.sz α := Nat.mod_lt _ hpos
    have hx : (List.replicate n z)[j / Flat.sz α]? = some z := by simp [hq]
    have hu : (Flat.enc z)[j % Flat.sz α]? = some ((Flat.enc z)[j % Flat.sz α]'(by rw [hsz]; exact hm)) := List.getElem?_eq_getElem _
    have h1 := flat_get (List.replicate n z) (j / Flat.sz α) z (j % Flat.sz α) _ hx hu
    have e : j / Flat.sz α * Flat.sz α + j % Flat.sz α = j := by rw [Nat.mul_comm]; exact Nat.div_add_mod _ _
    rw [e] at h1
    rw [h1]
    have hm2 : j % Flat.sz α < (Flat.enc z).length := by rw [hsz]; exact hm
    simp [madeCells, hj, hsz]
    rw [List.getElem?_eq_getElem hm2]; rfl
  · rw [List.getElem?_eq_none (by rw [flat_len]; simp; omega), List.getElem?_eq_none (by simp [madeCells]; omega)]

theorem ef_make {α : Type} [Flat α] {e bytes : Nat} {n' : Int} {z : α} {zv : Value} {l : List α} (hm : Mem w0 T L w) (ht : TSlice P t e (Flat.sz α)) (he : TElem P e (Flat.sz α) bytes zv) (hz : zv.cells.toList = Flat.enc z)
    (hx : evo env x = some (.int .i64 n')) (hy : evo env y = some (.int .i64 n')) (hl : mkL bytes n' z = some l) :
    Ef P n env ⟨d, .makeSlice t x y, ty, pos, af, g⟩ w (fun v w' => Mem w0 T (ownL e v l :: L) w') := fun a ha next Q hn => by
  obtain ⟨i, hi, hsz, hby, hzz⟩ := he.ex
  unfold mkL at hl
  split at hl
  case isFalse => cases hl
  case isTrue hc =>
    obtain ⟨h0, hb, h63⟩ := hc
    have hl' := os hl
    subst hl'
    have hr := run_make (P := P) w t e i zv ht.1 hi hzz .i64 .i64 n' n' h0 (Int.le_refl _) (by rw [hby]; exact hb) h63
    have hex : (execOp a.eval ⟨d, .makeSlice t x y, ty, pos, af, g⟩).run P w = .ok (.value (.slice (some ⟨w.heap.size, 0, none⟩) n'.toNat n'.toNat)) (w.alloc (.cells (madeCells zv.cells (n'.toNat * i.size)) e)) := by
      have e1 := ha.eval hx
      have e2 := ha.eval hy
      generalize a.eval = ρ at e1 e2 ⊢
      simp [execOp, e1, e2, hr]
    unfold Oper.wp
    rw [hex]
    have hzc : zv.cells = (Flat.enc z).toArray := by rw [← hz]
    refine hn _ _ (hm.add (Chg.alloc _ _ _) ?_ own_new_D)
    have := own_new (w := w) (e := e) (cs := madeCells zv.cells (n'.toNat * i.size)) (l := List.replicate n'.toNat z) (by rw [flat_rep, hzc, hsz]) (by simp [maxLen]; omega)
    simpa using this

theorem ef_append {α : Type} [Flat α] {e bytes k : Nat} {z : Value} {l lx l' : List α} {vx : Value} {R : Nat → Prop} (hm : Mem w0 T L w) (ht : TSlice P t e (Flat.sz α)) (he : TElem P e (Flat.sz α) bytes z) (hzs : z.cells.size = Flat.sz α) (hk : L[k]? = some (ownL e v l))
    (hx : evo env x = some v) (hy : evo env y = some vx) (hs : Sl R w vx lx) (hl : app bytes l lx = some l') :
    Ef P n env ⟨d, .call { callee := .builtin .append, args := #[x, y], argTypes := #[t, t] }, ty, pos, af, g⟩ w (fun v' w' => Mem w0 T (L.set k (ownL e v' l')) w') := fun a ha next Q hn => by
  obtain ⟨i, hi, hsz, hby, hzz⟩ := he.ex
  have e1 := ha.eval hx
  have e2 := ha.eval hy
  have hex : ∀ v' w', (Builtin.append_ #[t, t] ty #[v, vx]).run P w = .ok v' w' →
      (execOp a.eval ⟨d, .call { callee := .builtin .append, args := #[x, y], argTypes := #[t, t] }, ty, pos, af, g⟩).run P w = .ok (.value v') w' := fun v' w' hr => by
    generalize a.eval = ρ at e1 e2 ⊢
    simp [execOp, resolve, invoke, builtin, e1, e2, hr]
  unfold app at hl
  split at hl
  case isFalse => cases hl
  case isTrue hb =>
    have hl' := os hl
    subst hl'
    have hown : w.ownsRow 0 e (Flat.sz α) v l.length (l.flatMap Flat.enc) := hm.get hk
    obtain ⟨A, c, rfl, hc, hA, hel⟩ := hs
    by_cases hne : lx = []
    · subst hne
      have hr : (Builtin.append_ #[t, t] ty #[v, .slice A 0 c]).run P w = .ok v w := by
        rcases hown.2 with ⟨rfl, _⟩ | ⟨g, cap, cur, rfl, _, _, hnc, _⟩
        · cases A <;> simp [Builtin.append_, run_underlying ht.1, sizeOf, typeInfo, hi, Builtin.lenOf, Builtin.firstCells, loadCells, loadCellsFrom]
        · cases A <;> simp [Builtin.append_, run_underlying ht.1, sizeOf, typeInfo, hi, Builtin.lenOf, Builtin.firstCells, hnc, storeCells, loadCells, loadCellsFrom]
      unfold Oper.wp
      rw [hex v w (by simpa using hr)]
      refine hn _ _ ?_
      have hset : L.set k (ownL e v (l ++ [])) = L := by
        rw [List.append_nil]
        apply List.ext_getElem?
        intro j
        rw [List.getElem?_set]
        split
        · rename_i hj
          subst hj
          rw [if_pos (List.getElem?_eq_some_iff.1 hk).1, hk]
        · rfl
      show Mem w0 T (L.set k (ownL e v (l ++ []))) w
      rw [hset]
      exact hm
    · obtain ⟨b, o, rfl⟩ := hA hne
      have hnews : ∀ j u, (lx.flatMap Flat.enc)[j]? = some u → w.cell? ((⟨b, o, none⟩ : Addr).add j) = some u := by
        intro j u hu
        have hjl : j < lx.length * Flat.sz α := by
          rw [← flat_len lx]; exact (List.getElem?_eq_some_iff.1 hu).1
        have hpos : 0 < Flat.sz α := by
          rcases Nat.eq_zero_or_pos (Flat.sz α) with h0 | h0
          · rw [h0] at hjl; simp at hjl
          · exact h0
        have hq : j / Flat.sz α < lx.length := Nat.div_lt_of_lt_mul (by rw [Nat.mul_comm]; exact hjl)
        have hm' : j % Flat.sz α < Flat.sz α := Nat.mod_lt _ hpos
        obtain ⟨_, cs, hrep, hcell⟩ := hel (j / Flat.sz α) _ (List.getElem?_eq_getElem hq)
        have hcs : cs = Flat.enc lx[j / Flat.sz α] := hrep
        subst hcs
        have hu2 : (Flat.enc lx[j / Flat.sz α])[j % Flat.sz α]? = some ((Flat.enc lx[j / Flat.sz α])[j % Flat.sz α]'(by rw [Flat.len]; exact hm')) := List.getElem?_eq_getElem _
        have h1 := flat_get lx (j / Flat.sz α) _ (j % Flat.sz α) _ (List.getElem?_eq_getElem hq) hu2
        have e3 : j / Flat.sz α * Flat.sz α + j % Flat.sz α = j := by rw [Nat.mul_comm]; exact Nat.div_add_mod _ _
        rw [e3] at h1
        rw [h1] at hu
        injection hu with hu
        subst hu
        have h2 := hcell (j % Flat.sz α) _ hu2
        have hadd : (⟨b, o, none⟩ : Addr).add j = ⟨b, o + j, none⟩ := by unfold Addr.add; split <;> simp_all
        rw [hadd, ← h2]
        congr 2
        show o + j = o + j / Flat.sz α * Flat.sz α + j % Flat.sz α
        omega
      obtain ⟨v', w', hrun, h2, h3, _, h5⟩ := run_append_own_at (P := P) w 0 t ty e i z (Flat.sz α) bytes ht.1 hi hzz hsz hby hzs Flat.pos v l.length (l.flatMap Flat.enc) hown ⟨b, o, none⟩ lx.length c (lx.flatMap Flat.enc) (flat_len lx) hnews
        (fun u hu => by obtain ⟨y, _, hy⟩ := List.mem_flatMap.1 hu; exact Flat.one y u hy) (by simp only [maxLen]; omega) hb.1 (Nat.zero_le _)
      unfold Oper.wp
      rw [hex v' w' hrun]
      refine hn _ _ (hm.upd hk ?_ ?_ ?_)
      · exact (Chg.of_grown h3).mono fun g hg => hg
      · show w'.ownsRow 0 e (Flat.sz α) v' (l ++ lx).length ((l ++ lx).flatMap Flat.enc)
        rw [List.length_append, List.flatMap_append]
        exact h2
      · intro g hg
        rcases h5 with h | h
        · exact .inl (show v.ownBlock = some g by rw [← h]; exact hg)
        · have hg' : v'.ownBlock = some g := hg
          rw [h] at hg'
          injection hg' with hg'
          exact .inr (by omega)

/-! stores into a list that the call owns -/
theorem flat_set {α : Type} [Flat α] : ∀ (l : List α) (i : Nat) (x x' : α) (off : Nat) (u : Value), l[i]? = some x → off < Flat.sz α → (Flat.enc x).set off u = Flat.enc x' →
    (l.flatMap Flat.enc).set (i * Flat.sz α + off) u = (l.set i x').flatMap Flat.enc
  | [], i, x, x', off, u, h, _, _ => by simp at h
  | y :: l, 0, x, x', off, u, h, ho, he => by
    simp at h
    subst h
    rw [List.flatMap_cons, List.set_cons_zero, List.flatMap_cons, Nat.zero_mul, Nat.zero_add, List.set_append_left _ _ (by rw [Flat.len]; exact ho), he]
  | y :: l, i + 1, x, x', off, u, h, ho, he => by
    simp at h
    rw [List.flatMap_cons, List.set_cons_succ, List.flatMap_cons, List.set_append_right _ _ (by rw [Flat.len, Nat.add_mul]; omega), Flat.len]
    rw [show (i + 1) * Flat.sz α + off - Flat.sz α = i * Flat.sz α + off by rw [Nat.add_mul]; omega, flat_set l i x x' off u h ho he]

theorem own_set {α : Type} [Flat α] {e : Nat} {l : List α} {i off : Nat} {xe x' : α} (hφ : (ownL e v l).φ w) (hi : l[i]? = some xe) (ho : off < Flat.sz α) (he : (Flat.enc xe).set off u = Flat.enc x') :
    (ownL e v (l.set i x')).φ (w.setCell ⟨pB v, pO v + i * Flat.sz α + off, none⟩ u) ∧ w.frozen? ⟨pB v, pO v + i * Flat.sz α + off, none⟩ = false ∧ v.ownBlock = some (pB v) := by
  have h' : w.ownsRow 0 e (Flat.sz α) v l.length (l.flatMap Flat.enc) := hφ
  rcases h'.2 with ⟨hv, hn⟩ | ⟨g, cap, cur, hv, hb, hg, hnc, hcm, hcs, htake⟩
  · have : l = [] := List.eq_nil_of_length_eq_zero hn
    subst this
    simp at hi
  · have e1 : pB v = g := by rw [hv]; rfl
    have e2 : pO v = 0 := by rw [hv]; rfl
    rw [e1, e2, Nat.zero_add]
    have hil : i < l.length := (List.getElem?_eq_some_iff.1 hi).1
    have hlt : i * Flat.sz α + off < l.length * Flat.sz α := by
      have : (i + 1) * Flat.sz α ≤ l.length * Flat.sz α := Nat.mul_le_mul_right _ hil
      rw [Nat.add_mul] at this; omega
    refine ⟨⟨flat_len _, .inr ⟨g, cap, cur.setIfInBounds (i * Flat.sz α + off) u, by rw [List.length_set]; exact hv, hb, ?_, by simpa using hnc, hcm, by simpa using hcs, ?_⟩⟩, by simp [World.frozen?, hg], by rw [hv]; rfl⟩
    · simp [World.setCell, Array.getElem?_modify, hg]
    · rw [List.length_set, Array.toList_setIfInBounds, ← flat_set l i xe x' off u hi ho he, ← htake]
      apply List.ext_getElem?
      intro q
      simp only [List.getElem?_take, List.getElem?_set, List.length_take]
      by_cases hq : q < l.length * Flat.sz α
      · simp only [hq, if_true]
        by_cases hq2 : i * Flat.sz α + off = q
        · have h1 : q < cur.toList.length := by
            have : l.length * Flat.sz α ≤ cap * Flat.sz α := Nat.mul_le_mul_right _ hnc
            rw [Array.length_toList, hcs]; omega
          have h2 : q < min (l.length * Flat.sz α) cur.toList.length := by omega
          rw [if_pos hq2, if_pos hq2, if_pos (by omega), if_pos (by omega)]
        · rw [if_neg hq2, if_neg hq2]
      · have : ¬ i * Flat.sz α + off = q := by omega
        simp [hq, this]

theorem ef_stl {α : Type} [Flat α] {e k off : Nat} {j : Int} {l : List α} {xe x' : α} (hm : Mem w0 T L w) (ht : TOne P t) (hx : evo env x = some (.pointer (some ⟨pB v, pO v + j.toNat * Rep.sz α + off, none⟩))) (hy : evo env y = some u) (h1 : u.oneCell' = true)
    (hk : L[k]? = some (ownL e v l)) (hi : idx l j = some xe) (he : (Flat.enc xe).set off u = Flat.enc x') (ho : Nat.blt off (Flat.sz α) = true) :
    Ef P n env ⟨d, .store t x y, ty, pos, af, g⟩ w (fun _ w' => Mem w0 T (L.set k (ownL e v (l.set j.toNat x'))) w') := fun a ha next Q hn => by
  obtain ⟨h0, h2, h3⟩ := idx_some hi
  have ho' : off < Flat.sz α := Nat.le_of_ble_eq_true ho
  have hφ := hm.get hk
  obtain ⟨hnew, hfz, hob⟩ := own_set (u := u) hφ h3 ho' he
  have hold : (Flat.enc xe)[off]? = some ((Flat.enc xe)[off]'(by rw [Flat.len]; exact ho')) := List.getElem?_eq_getElem _
  have hc := (sl_of_own hφ).cells hi off _ hold
  unfold Oper.wp
  rw [run_st1 ht (ha.eval hx) (ha.eval hy) h1 hc hfz]
  exact hn undef _ (hm.upd hk ((chg_setCell ⟨pB v, pO v + j.toNat * Flat.sz α + off, none⟩ u).mono fun g hg => by
    show v.ownBlock = some g
    rw [hob]; exact congrArg some hg.symm) hnew (fun g hg => .inl hg))

theorem flat_setw {α : Type} [Flat α] : ∀ (l : List α) (i : Nat) (x' : α), i < l.length →
    (l.flatMap Flat.enc).take (i * Flat.sz α) ++ Flat.enc x' ++ (l.flatMap Flat.enc).drop (i * Flat.sz α + Flat.sz α) = (l.set i x').flatMap Flat.enc
  | [], i, x', h => by simp at h
  | y :: l, 0, x', _ => by
    rw [List.flatMap_cons, List.set_cons_zero, List.flatMap_cons, Nat.zero_mul, Nat.zero_add, List.take_zero, List.nil_append, List.drop_append_of_le_length (by rw [Flat.len]; exact Nat.le_refl _)]
    rw [List.drop_of_length_le (by rw [Flat.len]; exact Nat.le_refl _), List.nil_append]
  | y :: l, i + 1, x', h => by
    have hl : i < l.length := by simpa using h
    have hy : (Flat.enc y).length = Flat.sz α := Flat.len y
    rw [List.flatMap_cons, List.set_cons_succ, List.flatMap_cons, ← flat_setw l i x' hl]
    rw [show (i + 1) * Flat.sz α = Flat.sz α + i * Flat.sz α by rw [Nat.add_mul]; omega]
    rw [List.take_append, List.take_of_length_le (by rw [hy]; omega), hy, show Flat.sz α + i * Flat.sz α - Flat.sz α = i * Flat.sz α by omega]
    rw [List.drop_append, List.drop_of_length_le (by rw [hy]; omega), hy, show Flat.sz α + i * Flat.sz α + Flat.sz α - Flat.sz α = i * Flat.sz α + Flat.sz α by omega]
    simp

theorem ef_stlw {α : Type} [Flat α] {e k sz : Nat} {j : Int} {l : List α} {xe x' : α} {nc : Array Value} (hm : Mem w0 T L w) (ht : TAgg P t sz) (hx : evo env x = some (.pointer (some ⟨pB v, pO v + j.toNat * Rep.sz α, none⟩))) (hy : evo env y = some (.agg nc))
    (hk : L[k]? = some (ownL e v l)) (hi : idx l j = some xe) (he : nc.toList = Flat.enc x') (hsz : Flat.sz α = sz) :
    Ef P n env ⟨d, .store t x y, ty, pos, af, g⟩ w (fun _ w' => Mem w0 T (L.set k (ownL e v (l.set j.toNat x'))) w') := fun a ha next Q hn => by
  subst hsz
  obtain ⟨h0, h2, h3⟩ := idx_some hi
  have hφ : w.ownsRow 0 e (Flat.sz α) v l.length (l.flatMap Flat.enc) := hm.get hk
  rcases hφ.2 with ⟨hv, hn'⟩ | ⟨b, cap, cur, hv, hb, hg, hnc, hcm, hcs, htake⟩
  · have : l = [] := List.eq_nil_of_length_eq_zero hn'
    subst this
    simp at h3
  · have e1 : pB v = b := by rw [hv]; rfl
    have e2 : pO v = 0 := by rw [hv]; rfl
    rw [e1, e2, Nat.zero_add] at hx
    have hnl : nc.toList.length = Flat.sz α := by rw [he, Flat.len]
    have hil : j.toNat < l.length := (List.getElem?_eq_some_iff.1 h3).1
    have hlt : j.toNat * Flat.sz α + Flat.sz α ≤ l.length * Flat.sz α := by
      have : (j.toNat + 1) * Flat.sz α ≤ l.length * Flat.sz α := Nat.mul_le_mul_right _ hil
      rw [Nat.add_mul] at this; omega
    have hcap : l.length * Flat.sz α ≤ cap * Flat.sz α := Nat.mul_le_mul_right _ hnc
    have hst := run_storeCells_at P b (j.toNat * Flat.sz α) e nc.toList 0 cur w hg (by rw [hnl, hcs]; omega) (by rw [he]; exact Flat.one x')
    have hxv := ha.eval hx
    have hyv := ha.eval hy
    have hr : ∃ cs, (execOp a.eval ⟨d, .store t x y, ty, pos, af, g⟩).run P w = .ok .skip (w.setRow b cs) ∧ cs = (cur.toList.take (j.toNat * Flat.sz α + 0) ++ nc.toList ++ cur.toList.drop (j.toNat * Flat.sz α + 0 + nc.toList.length)).toArray := by
      refine ⟨_, ?_, rfl⟩
      have hszn : nc.size = Flat.sz α := by simpa using hnl
      generalize a.eval = ρ at hxv hyv ⊢
      have hst' : Sem.run P (storeCells ⟨b, j.toNat * Rep.sz α, none⟩ nc.toList) w = _ := hst
      simp only [execOp, hxv, hyv, Instr.storeAt, Instr.sureAddr, storeVar, Sem.run_bind, Sem.run_pure, Result.andThen_ok, run_sizeOf_t ht.2, Value.cells, hszn, ne_eq, not_true_eq_false, if_false, hst']
    obtain ⟨cs, hr, hcsd⟩ := hr
    unfold Oper.wp
    rw [hr]
    refine hn undef _ (hm.upd hk ((Chg.setRow _ _ _).mono fun g hg' => ?_) ?_ (fun g hg => .inl hg))
    · show v.ownBlock = some g
      rw [hv]; exact congrArg some hg'.symm
    · have hlen : (cur.toList.take (j.toNat * Flat.sz α + 0) ++ nc.toList ++ cur.toList.drop (j.toNat * Flat.sz α + 0 + nc.toList.length)).length = cur.size := by
        simp only [List.length_append, List.length_take, List.length_drop, Array.length_toList, hnl, hcs]; omega
      refine ⟨flat_len _, .inr ⟨b, cap, cs, by rw [List.length_set]; exact hv, hb, setRow_heap w b cur cs e (0, 0) hg, by simpa using hnc, hcm, ?_, ?_⟩⟩
      · rw [hcsd]; simp only [List.size_toArray]; rw [hlen]; exact hcs
      · rw [hcsd, List.length_set, ← flat_setw l j.toNat x' hil, ← htake, he]
        simp only [Nat.add_zero]
        have hne : (Flat.enc x').length = Flat.sz α := Flat.len x'
        rw [hne]
        apply List.ext_getElem?
        intro q
        simp only [List.getElem?_take, List.getElem?_append, List.getElem?_drop, List.length_take, List.length_append, Array.length_toList, hcs, hne]
        have hmin : min (j.toNat * Flat.sz α) (cap * Flat.sz α) = j.toNat * Flat.sz α := by omega
        have hmin2 : min (j.toNat * Flat.sz α) (min (l.length * Flat.sz α) (cap * Flat.sz α)) = j.toNat * Flat.sz α := by omega
        simp only [hmin, hmin2]
        by_cases hq : q < l.length * Flat.sz α
        · simp only [hq, if_true]
          by_cases hq1 : q < j.toNat * Flat.sz α + Flat.sz α
          · simp only [hq1, if_true]
          · simp only [hq1, if_false]
            have : j.toNat * Flat.sz α + Flat.sz α + (q - (j.toNat * Flat.sz α + Flat.sz α)) = q := by omega
            simp only [this, hq, if_true]
        · simp only [hq, if_false]
          by_cases hq1 : q < j.toNat * Flat.sz α + Flat.sz α
          · omega
          · simp only [hq1, if_false]
            have : j.toNat * Flat.sz α + Flat.sz α + (q - (j.toNat * Flat.sz α + Flat.sz α)) = q := by omega
            simp only [this, hq, if_false]

end
end Go.Gv
