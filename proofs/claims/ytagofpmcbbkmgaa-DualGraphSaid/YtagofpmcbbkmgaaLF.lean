/- A region that draws its order, whose head reads, makes memory and calls: each operation's value is told by a property that lasts; one look at each operation serves every order. Behind the head a tail in one forced order, which may write. -/
import Derived.Test.YtagofpmcbbkmgaaLQ
namespace Go.Proofs.Ytagofpmcbbkmgaa
open Go.RowKit

section
variable {P : Program} {ops : Array Oper} {md : Region.Mode}

/-- The frame in which those that have come up have left their values. -/
def puL (b : Nat → Bool) (vals : Nat → Value) : Nat → List Oper → Act → Act
  | _, [], a => a
  | i, o :: os, a => puL b vals (i + 1) os (if b i then a.put o.dst (vals i) else a)

theorem puL_congr {b b' : Nat → Bool} {vals vals' : Nat → Value} : ∀ (os : List Oper) (i : Nat) (a : Act), (∀ k, k < os.length → b (i + k) = b' (i + k) ∧ (b (i + k) = true → vals (i + k) = vals' (i + k))) → puL b vals i os a = puL b' vals' i os a
  | [], _, _, _ => rfl
  | o :: os, i, a, h => by
    have h0 := h 0 (by simp)
    rw [Nat.add_zero] at h0
    simp only [puL]
    rw [puL_congr os (i + 1) _ (fun k hk => by have := h (k + 1) (by simpa using hk); rw [show i + 1 + k = i + (k + 1) by omega]; exact this), ← h0.1]
    cases hb : b i
    · rfl
    · rw [h0.2 hb]
theorem puL_put {b : Nat → Bool} {vals : Nat → Value} {d : Option Tmp} {u : Value} : ∀ (os : List Oper) (i : Nat) (a : Act), (∀ o ∈ os, ∀ e, d = some e → o.dst ≠ some e) → (puL b vals i os a).put d u = puL b vals i os (a.put d u)
  | [], _, _, _ => rfl
  | o :: os, i, a, h => by
    simp only [puL]
    rw [puL_put os (i + 1) _ (fun o' ho' => h o' (List.mem_cons_of_mem _ ho'))]
    cases b i
    · rfl
    · simp only [if_true]
      rw [Act.put_comm a (vals i) u (fun e he hd => h o (List.mem_cons_self ..) e hd he)]
theorem puL_set {b : Nat → Bool} {vals : Nat → Value} {u : Value} : ∀ (os : List Oper) (i k : Nat) (a : Act) (o : Oper), os[k]? = some o → b (i + k) = false →
    (∀ k' o', os[k']? = some o' → k' ≠ k → ∀ e, o.dst = some e → o'.dst ≠ some e) →
    (puL b vals i os a).put o.dst u = puL (fun m => b m || m == i + k) (fun m => if m = i + k then u else vals m) i os a
  | [], _, _, _, _, h, _, _ => by simp at h
  | x :: os, i, 0, a, o, h, hb, hd => by
    simp only [List.getElem?_cons_zero, Option.some.injEq] at h
    subst h
    rw [Nat.add_zero] at hb ⊢
    simp only [puL, hb, Bool.false_eq_true, if_false, beq_self_eq_true, Bool.or_true, if_true]
    rw [puL_put os (i + 1) a (fun o' ho' e he => by
      obtain ⟨k', hk'⟩ := List.getElem?_of_mem ho'
      exact hd (k' + 1) o' (by simpa using hk') (by omega) e he)]
    refine puL_congr os (i + 1) _ (fun k hk => ?_)
    have h1 : (i + 1 + k == i) = false := by simp; omega
    have h2 : ¬ i + 1 + k = i := by omega
    simp [h1, h2]
  | x :: os, i, k + 1, a, o, h, hb, hd => by
    have h1 : (i == i + (k + 1)) = false := by simp
    have h2 : ¬ i = i + (k + 1) := by omega
    simp only [puL, h1, h2, Bool.or_false, if_false]
    have := puL_set (b := b) (vals := vals) (u := u) os (i + 1) k (if b i then a.put x.dst (vals i) else a) o (by simpa using h) (by rw [show i + 1 + k = i + (k + 1) by omega]; exact hb) (fun k' o' hk' hne e he => hd (k' + 1) o' (by simpa using hk') (by omega) e he)
    rw [this, show i + 1 + k = i + (k + 1) by omega]
theorem puL_size {b : Nat → Bool} {vals : Nat → Value} : ∀ (os : List Oper) (i : Nat) (a : Act), (puL b vals i os a).tmps.size = a.tmps.size
  | [], _, _ => rfl
  | o :: os, i, a => by
    simp only [puL]
    rw [puL_size os (i + 1)]
    split
    · cases hd : o.dst <;> simp [Act.put]
    · rfl
theorem puL_eval {b : Nat → Bool} {vals : Nat → Value} {x : Operand} : ∀ (os : List Oper) (i : Nat) (a a' : Act), (∀ k o e, os[k]? = some o → o.dst = some e → x = .tmp e → b (i + k) = true) → a.eval x = a'.eval x → a.tmps.size = a'.tmps.size →
    (puL b vals i os a).eval x = (puL (fun _ => true) vals i os a').eval x
  | [], _, _, _, _, h, _ => h
  | o :: os, i, a, a', hk, h, hs => by
    simp only [puL, if_true]
    have h0 := hk 0 o
    rw [Nat.add_zero] at h0
    refine puL_eval os (i + 1) _ _ (fun k o' e h1 h2 h3 => by have := hk (k + 1) o' e (by simpa using h1) h2 h3; rwa [show i + 1 + k = i + (k + 1) by omega]) ?_ ?_
    · cases hd : o.dst with
      | none => cases b i <;> simpa [Act.put] using h
      | some e =>
        by_cases hx : x = .tmp e
        · have hb := h0 e rfl hd hx
          subst hx
          simp only [hb, if_true, Act.put, Act.eval]
          by_cases hlt : e < a.tmps.size
          · simp [Array.getElem?_setIfInBounds, hlt, hs ▸ hlt]
          · have hlt' : ¬ e < a'.tmps.size := hs ▸ hlt
            simp [Array.getElem?_setIfInBounds, hlt, hlt']
        · have e1 : ∀ c : Act, (c.put (some e) (vals i)).eval x = c.eval x := fun c => Act.eval_put (fun d hd' hxd => hx (by rw [hxd]; cases hd'; rfl))
          cases b i
          · simp only [Bool.false_eq_true, if_false]; rw [e1]; exact h
          · simp only [if_true]; rw [e1, e1]; exact h
    · cases hd : o.dst <;> cases b i <;> simp [Act.put, hs]

/-- What is asked of an operation's outcome: a value, with a world. -/
def FlowUpon (P : Program) (R : Value → World → Prop) : Result Next → Prop
  | .ok (.value u) w' => R u w'
  | .ok (.enter f args) w' => Calls P f args w' fun e w'' => ∃ v, e = .returned v ∧ R v w''
  | _ => False
def Oper.flow (P : Program) (o : Oper) (a : Act) (w : World) (R : Value → World → Prop) : Prop := FlowUpon P R ((execOp a.eval o).run P w)
theorem wp_of_flow {o : Oper} {a b : Act} {w : World} {R : Value → World → Prop} {K : Act → World → Prop} {Q : Exit → Act → World → Prop} (he : execOp a.eval o = execOp b.eval o) (h : Oper.flow P o b w R) (hK : ∀ v w', R v w' → K (a.put o.dst v) w') : o.wp P a w K Q := by
  unfold Oper.flow at h
  unfold Oper.wp
  rw [he]
  generalize (execOp b.eval o).run P w = r at *
  cases r with
  | ok n w' =>
    cases n <;> simp only [FlowUpon] at h <;> simp only [Oper.upon]
    case value u => exact hK _ _ h
    case enter f args => exact h.mono fun e w'' ⟨v, he, hr⟩ => by subst he; exact hK _ _ hr
  | halt x w' => simp only [FlowUpon] at h

/-- Does operation i wait for operation j? -/
def depB (l : List Oper) (i j : Nat) : Bool := ((l[i]?).map fun o => o.after.any fun e => Region.binds .any e && e.on == j).getD false
/-- The head's operations are plain: no guard, each its own slot, each reads of the head only what it waits for, each waits for earlier ones. -/
def plainAt (l : List Oper) (n i : Nat) : Bool :=
  match l[i]? with
  | some o => o.guard.isNone && o.after.all (fun e => !Region.binds .any e || decide (e.on < i)) && (List.range n).all fun j =>
      match l[j]? with
      | some oj => (i == j || oj.dst.isNone || oj.dst != o.dst) && (match oj.dst with | some d => !(o.op.operands.any fun x => match x with | .tmp t => t == d | _ => false) || depB l i j | none => true)
      | none => false
  | none => false
def flowB (l : List Oper) (n : Nat) : Bool :=
  Region.noSelect l.toArray && decide (n ≤ l.length) && (decide (n = l.length) || (Region.sinkB .any l.toArray n && Region.chainB .any l.toArray n)) && (List.range n).all (plainAt l n) &&
    Region.seqB .any l.toArray (l.length - n) n ((List.replicate n true ++ List.replicate (l.length - n) false).toArray)
end
theorem plainAt_spec {l : List Oper} {n i : Nat} (h : plainAt l n i = true) : ∃ o, l[i]? = some o ∧ o.guard = none ∧ (∀ e ∈ o.after, Region.binds .any e = true → e.on < i) ∧
    (∀ j oj, j < n → l[j]? = some oj → (i ≠ j → ∀ d, oj.dst = some d → o.dst ≠ some d) ∧ (∀ d, oj.dst = some d → .tmp d ∈ o.op.operands → depB l i j = true)) := by
  unfold plainAt at h
  cases ho : l[i]? with
  | none => rw [ho] at h; cases h
  | some o =>
    rw [ho] at h
    simp only [Bool.and_eq_true] at h
    obtain ⟨⟨h1, h2⟩, h3⟩ := h
    refine ⟨o, rfl, by simpa using h1, fun e he hb => ?_, fun j oj hj hoj => ?_⟩
    · have := (Array.all_eq_true'.1 h2) e he
      rw [hb] at this
      simpa using this
    · have h4 := List.all_eq_true.1 h3 j (List.mem_range.2 hj)
      rw [hoj] at h4
      simp only [Bool.and_eq_true] at h4
      refine ⟨fun hij d hd hod => ?_, fun d hd hx => ?_⟩
      · have h5 := h4.1
        simp [hij, hd, hod] at h5
      · have h5 := h4.2
        rw [hd] at h5
        simp only [Bool.or_eq_true, Bool.not_eq_true'] at h5
        rcases h5 with h5 | h5
        · have := (Array.any_eq_false'.1 h5) _ hx
          simp at this
        · exact h5

theorem puL_none {b : Nat → Bool} {vals : Nat → Value} {a : Act} (hb : ∀ m, b m = false) : ∀ (os : List Oper) (i : Nat), puL b vals i os a = a
  | [], _ => rfl
  | o :: os, i => by simp only [puL, hb, Bool.false_eq_true, if_false]; exact puL_none hb os (i + 1)

/-- how many of the head have not come up -/
def unl (listed : Array Bool) : Nat → Nat
  | 0 => 0
  | n + 1 => unl listed n + if listed.getD n false then 0 else 1
theorem unl_set {listed : Array Bool} {i : Nat} (hi : i < listed.size) (h : listed.getD i false = false) : ∀ n, unl (listed.setIfInBounds i true) n + (if i < n then 1 else 0) = unl listed n
  | 0 => by simp [unl]
  | n + 1 => by
    have ih := unl_set hi h n
    simp only [unl]
    by_cases hin : i = n
    · subst hin
      have h1 : (listed.setIfInBounds i true).getD i false = true := by simp [hi]
      rw [h1, h]
      simp at ih ⊢
      exact ih
    · rw [getD_set_ne false hin]
      by_cases hlt : i < n
      · have : i < n + 1 := by omega
        simp only [hlt, this, if_true] at ih ⊢
        omega
      · have : ¬ i < n + 1 := by omega
        simp only [hlt, this, if_false] at ih ⊢
        omega
theorem unl_zero {listed : Array Bool} : ∀ {n : Nat}, unl listed n = 0 → ∀ i, i < n → listed.getD i false = true
  | 0, _, i, h => by omega
  | n + 1, h0, i, h => by
    simp only [unl] at h0
    by_cases e : i = n
    · subst e
      cases hl : listed.getD i false
      · rw [hl] at h0; simp at h0
      · rfl
    · exact unl_zero (n := n) (by omega) i (by omega)
theorem unl_least {listed : Array Bool} : ∀ {n : Nat}, unl listed n ≠ 0 → ∃ i, i < n ∧ listed.getD i false = false ∧ ∀ j, j < i → listed.getD j false = true
  | 0, h => absurd rfl h
  | n + 1, h => by
    by_cases h1 : unl listed n = 0
    · refine ⟨n, by omega, ?_, fun j hj => unl_zero h1 j hj⟩
      cases hl : listed.getD n false
      · rfl
      · simp [unl, h1, hl] at h
    · obtain ⟨i, hi, h2⟩ := unl_least h1
      exact ⟨i, by omega, h2⟩

section
variable {P : Program} {l : List Oper} {n : Nat} {Q : Exit → Act → World → Prop} {Φ : Nat → Value → World → Prop} {W0 : World} {a0 : Act}

theorem flow_any (hm : ∀ i v w w', Φ i v w → Ext w w' → Φ i v w') (hB : flowB l n = true)
    (hstep : ∀ i o, i < n → l[i]? = some o → ∀ vals w, Ext W0 w → (∀ j, depB l i j = true → Φ j (vals j) w) → Oper.flow P o (puL (fun _ => true) vals 0 (l.take n) a0) w fun v w' => Ext w w' ∧ Φ i v w')
    (htail : ∀ vals w, Ext W0 w → (∀ j, j < n → Φ j (vals j) w) → wpList P l.toArray Q (l.drop n) (puL (fun _ => true) vals 0 (l.take n) a0) w) :
    ∀ (f : Nat) (listed : Array Bool) (vals : Nat → Value) (w : World), HeadInv .any l.toArray n listed → unl listed n = f → Ext W0 w → (∀ j, j < n → listed.getD j false = true → Φ j (vals j) w) →
      wpAny P .any l.toArray Q (f + (l.length - n)) listed (puL (fun m => listed.getD m false) vals 0 (l.take n) a0) w := by
  unfold flowB at hB
  simp only [Bool.and_eq_true, decide_eq_true_eq] at hB
  obtain ⟨⟨⟨⟨hsel, hn⟩, htl⟩, hpl⟩, hseq⟩ := hB
  have hplain := fun i (hi : i < n) => plainAt_spec (List.all_eq_true.1 hpl i (List.mem_range.2 hi))
  intro f
  induction f with
  | zero =>
    intro listed vals w inv hu hx hΦ
    have hall := unl_zero hu
    have hl : listed = (List.replicate n true ++ List.replicate (l.length - n) false).toArray := by
      have hsz := inv.size
      simp only [List.size_toArray] at hsz
      apply Array.ext
      · simp; omega
      · intro k h1 h2
        by_cases hk : k < n
        · have := hall k hk
          simp [h1] at this
          rw [this]
          simp [List.getElem_append, hk]
        · have := inv.tail k (by omega) (by simp; omega)
          simp [h1] at this
          rw [this]
          simp [List.getElem_append, hk]
    have hp : puL (fun m => listed.getD m false) vals 0 (l.take n) a0 = puL (fun _ => true) vals 0 (l.take n) a0 := puL_congr _ _ _ (fun k hk => by
      rw [Nat.zero_add]
      exact ⟨hall k (by simp at hk; omega), fun _ => rfl⟩)
    rw [hp, Nat.zero_add]
    have hdl : (l.drop n).length = l.length - n := by simp
    have := wpAny_of_seq (md := .any) (Q' := Q) (l.drop n) n listed (puL (fun _ => true) vals 0 (l.take n) a0) w (fun j => by simp [List.getElem?_drop]) (by rw [hdl, hl]; exact hseq) (htail vals w hx fun j hj => hΦ j hj (hall j hj))
    rwa [hdl] at this
  | succ f ih =>
    intro listed vals w inv hu hx hΦ
    have hsz : listed.size = l.length := by simpa using inv.size
    obtain ⟨i0, hi0, hl0, hmin⟩ := unl_least (listed := listed) (n := n) (by omega)
    rw [show f + 1 + (l.length - n) = (f + (l.length - n)) + 1 by omega]
    refine ⟨fun h0 => ?_, fun i hi => ?_⟩
    · obtain ⟨o, ho, _, haf, _⟩ := hplain i0 hi0
      have : i0 ∈ Region.ready .any l.toArray listed := mem_ready.2 ⟨getD_in (by omega) hl0, o, by simpa using ho, fun e he hb => hmin _ (haf e he hb)⟩
      rw [h0] at this
      cases this
    · have hin : i < n := by
        rcases Nat.lt_or_ge i n with h | h
        · exact h
        · obtain ⟨_, oi, hoi, _⟩ := mem_ready.1 hi
          have hil : i < l.toArray.size := (Array.getElem?_eq_some_iff.1 hoi).1
          simp only [Bool.or_eq_true, decide_eq_true_eq, Bool.and_eq_true] at htl
          rcases htl with htl | htl
          · simp at hil; omega
          · exact absurd hi (tail_waits htl.1 htl.2 (by omega) inv _ i0 rfl hi0 (getD_in (by omega) hl0) i h)
      obtain ⟨hun, oi, hoi, hdone⟩ := mem_ready.1 hi
      obtain ⟨o, ho, hg, _, hap⟩ := hplain i hin
      have hoo : oi = o := by
        have : l[i]? = some oi := by simpa using hoi
        rw [ho] at this; exact (Option.some.inj this).symm
      subst hoo
      have hlf := getD_both hun
      unfold wpOp
      simp only [hoi]
      have hw : Region.wanted oi (yielded l.toArray (puL (fun m => listed.getD m false) vals 0 (l.take n) a0).tmps) = true := by simp [Region.wanted, hg]
      rw [if_pos hw]
      refine Or.inl ?_
      have hdep : ∀ j, depB l i j = true → j < n ∧ listed.getD j false = true := fun j hj => by
        unfold depB at hj
        rw [ho] at hj
        simp only [Option.map_some, Option.getD_some] at hj
        obtain ⟨e, he, hb⟩ := Array.any_eq_true'.1 hj
        simp only [Bool.and_eq_true, beq_iff_eq] at hb
        have hl := hdone e he hb.1
        rw [hb.2] at hl
        refine ⟨?_, hl⟩
        rcases Nat.lt_or_ge j n with h | h
        · exact h
        · exfalso
          by_cases hjs : j < l.length
          · have := inv.tail j h (by simpa using hjs)
            rw [getD_both this] at hl
            cases hl
          · simp [Array.getElem?_eq_none (show listed.size ≤ j by omega)] at hl
      have hst := hstep i oi hin ho vals w hx (fun j hj => hΦ j (hdep j hj).1 (hdep j hj).2)
      refine wp_of_flow (execOp_congr oi (fun cs b => Region.noSelect_spec hsel i oi cs b hoi) fun x hxo => puL_eval (l.take n) 0 a0 a0 (fun k ok e hk hd hxe => ?_) rfl rfl) hst fun v w' hvw => ?_
      · rw [Nat.zero_add]
        have hkn : k < n := by
          have := (List.getElem?_eq_some_iff.1 hk).1
          simp at this; omega
        have hk' : l[k]? = some ok := by rwa [List.getElem?_take, if_pos hkn] at hk
        subst hxe
        exact (hdep k ((hap k ok hkn hk').2 e hd hxo)).2
      · obtain ⟨hxw, hΦv⟩ := hvw
        have hot : (l.take n)[i]? = some oi := by rw [List.getElem?_take, if_pos hin]; exact ho
        rw [puL_set (l.take n) 0 i a0 oi hot (by rw [Nat.zero_add]; exact hlf) (fun k' o' hk' hne e he he' => by
          have hkn : k' < n := by
            have := (List.getElem?_eq_some_iff.1 hk').1
            simp at this; omega
          have hk'' : l[k']? = some o' := by rwa [List.getElem?_take, if_pos hkn] at hk'
          exact (hap k' o' hkn hk'').1 (Ne.symm hne) e he' he)]
        have hb : puL (fun m => listed.getD m false || m == 0 + i) (fun m => if m = 0 + i then v else vals m) 0 (l.take n) a0 = puL (fun m => (listed.setIfInBounds i true).getD m false) (fun m => if m = i then v else vals m) 0 (l.take n) a0 := by
          refine puL_congr _ _ _ (fun k hk => ?_)
          simp only [Nat.zero_add]
          refine ⟨?_, by simp⟩
          by_cases e : k = i
          · subst e
            simp [show k < listed.size by omega]
          · rw [getD_set_ne false (Ne.symm e)]
            simp [e]
        rw [hb]
        refine ih _ _ _ (inv.set hi hin) ?_ (hx.trans hxw) (fun j hj hlj => ?_)
        · have := unl_set (show i < listed.size by omega) hlf n
          rw [if_pos hin] at this
          omega
        · by_cases e : j = i
          · subst e; simp only [if_true]; exact hΦv
          · simp only [e, if_false]
            rw [getD_set_ne false (Ne.symm e)] at hlj
            exact hm _ _ _ _ (hΦ j hj hlj) hxw

theorem wp_region_flow {id : Nat} {a : Act} {w : World} (n : Nat) (Φ : Nat → Value → World → Prop) (hmix : P.follows .mixedOrders = true) (hB : flowB l n = true) (hm : ∀ i v w w', Φ i v w → Ext w w' → Φ i v w')
    (hstep : ∀ i o, i < n → l[i]? = some o → ∀ vals w', Ext w w' → (∀ j, depB l i j = true → Φ j (vals j) w') → Oper.flow P o (puL (fun _ => true) vals 0 (l.take n) a) w' fun v w'' => Ext w' w'' ∧ Φ i v w'')
    (htail : ∀ vals w', Ext w w' → (∀ j, j < n → Φ j (vals j) w') → wpList P l.toArray Q (l.drop n) (puL (fun _ => true) vals 0 (l.take n) a) w') : (Code.region id l.toArray true).wp P Q a w := by
  refine wp_region_any hmix ?_
  have hn : n ≤ l.length := by
    unfold flowB at hB
    simp only [Bool.and_eq_true, decide_eq_true_eq] at hB
    exact hB.1.1.1.2
  have inv0 : HeadInv .any l.toArray n (Array.replicate l.toArray.size false) :=
    ⟨by simp, fun j oj _ hl => (by rw [getD_replicate_false] at hl; cases hl), fun t _ ht => getD_in (by simpa using ht) (getD_replicate_false _ _)⟩
  have hu : ∀ m, unl (Array.replicate l.toArray.size false) m = m := fun m => by
    induction m with
    | zero => rfl
    | succ m ih => simp only [unl, getD_replicate_false, ih]; simp
  have := flow_any (P := P) (W0 := w) (a0 := a) (Q := Q) hm hB hstep htail n (Array.replicate l.toArray.size false) (fun _ => undef) { w with drawn := w.drawn + 1 } inv0 (hu n) ((Ext.refl w).drew) (fun j hj hl => by rw [getD_replicate_false] at hl; cases hl)
  rw [show n + (l.length - n) = l.toArray.size by simp; omega] at this
  have hp : puL (fun m => (Array.replicate l.toArray.size false).getD m false) (fun _ => undef) 0 (l.take n) a = a := by
    exact puL_none (fun m => getD_replicate_false _ _) _ _
  rw [hp] at this
  exact this

/-- A property of a value that lasts while the world grows. -/
def Lasts (p : Value → World → Prop) : Prop := ∀ v w w', p v w → Ext w w' → p v w'
def PhiL (L : List (Value → World → Prop)) (i : Nat) : Value → World → Prop := L.getD i fun _ _ => True
theorem lasts_phi : ∀ (L : List (Value → World → Prop)), (∀ p ∈ L, Lasts p) → ∀ i v w w', PhiL L i v w → Ext w w' → PhiL L i v w'
  | [], _, _, _, _, _, h, _ => h
  | p :: L, hL, 0, v, w, w', h, hx => hL p (List.mem_cons_self ..) v w w' h hx
  | p :: L, hL, i + 1, v, w, w', h, hx => lasts_phi L (fun q hq => hL q (List.mem_cons_of_mem _ hq)) i v w w' h hx
def isV (x : Value) : Value → World → Prop := fun v _ => v = x
theorem lasts_isV (x : Value) : Lasts (isV x) := fun _ _ _ h _ => h
theorem lasts_nil : ∀ p ∈ ([] : List (Value → World → Prop)), Lasts p := fun _ h => by cases h
theorem lasts_cons {p : Value → World → Prop} {L : List (Value → World → Prop)} (hp : Lasts p) (hL : ∀ q ∈ L, Lasts q) : ∀ q ∈ p :: L, Lasts q := fun q hq => by
  rcases List.mem_cons.1 hq with rfl | h
  · exact hp
  · exact hL q h
/-- One look at each operation. -/
def Looks (P : Program) (l : List Oper) (n : Nat) (Φ : Nat → Value → World → Prop) (a : Act) (w : World) : Nat → List Oper → Prop
  | _, [] => True
  | i, o :: os => (∀ vals w', Ext w w' → (∀ j, depB l i j = true → Φ j (vals j) w') → Oper.flow P o (puL (fun _ => true) vals 0 (l.take n) a) w' fun v w'' => Ext w' w'' ∧ Φ i v w'') ∧ Looks P l n Φ a w (i + 1) os
theorem looks_at {l : List Oper} {n : Nat} {Φ : Nat → Value → World → Prop} {a : Act} {w : World} : ∀ (os : List Oper) (i k : Nat) (o : Oper), Looks P l n Φ a w i os → os[k]? = some o → ∀ vals w', Ext w w' → (∀ j, depB l (i + k) j = true → Φ j (vals j) w') → Oper.flow P o (puL (fun _ => true) vals 0 (l.take n) a) w' fun v w'' => Ext w' w'' ∧ Φ (i + k) v w''
  | [], _, _, _, _, h => by simp at h
  | x :: os, i, 0, o, hl, h => by simp only [List.getElem?_cons_zero, Option.some.injEq] at h; subst h; exact hl.1
  | x :: os, i, k + 1, o, hl, h => by
    have := looks_at os (i + 1) k o hl.2 (by simpa using h)
    rwa [show i + 1 + k = i + (k + 1) by omega] at this
theorem wp_region_looks {id : Nat} {a : Act} {w : World} (n : Nat) (L : List (Value → World → Prop)) (hmix : P.follows .mixedOrders = true) (hB : flowB l n = true) (hm : ∀ p ∈ L, Lasts p)
    (hstep : Looks P l n (PhiL L) a w 0 (l.take n))
    (htail : ∀ vals w', Ext w w' → (∀ j, j < n → PhiL L j (vals j) w') → wpList P l.toArray Q (l.drop n) (puL (fun _ => true) vals 0 (l.take n) a) w') : (Code.region id l.toArray true).wp P Q a w :=
  wp_region_flow n (PhiL L) hmix hB (lasts_phi L hm) (fun i o hi ho => by
    have := looks_at (l.take n) 0 i o hstep (by rw [List.getElem?_take, if_pos hi]; exact ho)
    rwa [Nat.zero_add] at this) htail
end
end Go.Proofs.Ytagofpmcbbkmgaa
