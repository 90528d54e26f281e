/- A region that draws its order and ends in an operation that writes what the others read: the reads are taken first, under a condition S that is asked behind every operation but the last one. -/
import Derived.OrdersHeld
import Derived.Deep.RegionHeld
namespace Go.Proofs.Ytldkgmodmpnclaa
section
variable {P : Program} {md : Region.Mode} {ops : Array Oper} {Q : Exit → Act → World → Prop} {S : World → Prop} {n : Nat}

/-- Whatever comes up next; S holds behind each operation as long as number n has not come up. -/
def Whichever (P : Program) (md : Region.Mode) (ops : Array Oper) (Q : Exit → Act → World → Prop) (S : World → Prop) (n : Nat) : Nat → Array Bool → Act → World → Prop
  | 0, listed, a, w => Region.ready md ops listed = [] ∧ Q .normal a w
  | fuel + 1, listed, a, w => (Region.ready md ops listed = [] → Q .normal a w) ∧ ∀ i ∈ Region.ready md ops listed,
      wpOp P ops Q i (fun a' w' => ((listed.setIfInBounds i true).getD n true = false → S w') ∧ Whichever P md ops Q S n fuel (listed.setIfInBounds i true) a' w') a w

theorem Whichever.wpAny : ∀ (fuel : Nat) (listed : Array Bool) (a : Act) (w : World), Whichever P md ops Q S n fuel listed a w → wpAny P md ops Q fuel listed a w
  | 0, _, _, _, h => h
  | fuel + 1, _, _, _, h => ⟨h.1, fun i hi => wpOp_mono (fun a' w' h' => Whichever.wpAny fuel _ a' w' h'.2) (h.2 i hi)⟩

theorem Whichever.start {id : Nat} {a : Act} {w : World} (hm : P.follows .mixedOrders = true)
    (h : Whichever P .any ops Q S n ops.size (Array.replicate ops.size false) a w.drew) : (Code.region id ops true).wp P Q a w :=
  wp_region_any hm (Whichever.wpAny _ _ _ _ h)

/-- Does number n wait for number i? -/
def waitsB (md : Region.Mode) (ops : Array Oper) (n i : Nat) : Bool := match ops[n]? with
  | some o => o.after.any fun e => Region.binds md e && e.on == i
  | none => false
theorem waitsB_spec {i : Nat} (h : waitsB md ops n i = true) {listed : Array Bool} (hi : listed.getD i true = false) : n ∉ Region.ready md ops listed := by
  intro hr
  obtain ⟨_, o, ho, hall⟩ := mem_ready.1 hr
  unfold waitsB at h
  rw [ho] at h
  simp only [Array.any_eq_true, Bool.and_eq_true, beq_iff_eq] at h
  obtain ⟨k, hk, hb, he⟩ := h
  have h1 := hall _ (Array.getElem_mem hk) hb
  rw [he] at h1
  rcases Nat.lt_or_ge i listed.size with h' | h'
  · simp [h'] at hi h1
    rw [hi] at h1
    cases h1
  · simp [Array.getElem?_eq_none h'] at h1

theorem Whichever.first {i : Nat} {oi : Oper} {v : Value} (hi : ops[i]? = some oi) (hsel : ∀ (j : Nat) (o : Oper) cs b, ops[j]? = some o → o.op ≠ .select cs b)
    (hQ : ∀ c a w, Q (.panic c) (a.put oi.dst v) w → Q (.panic c) a w) (hni : n ≠ i) {T : World → Prop} (hT : (T = S ∧ waitsB md ops n i = true) ∨ ∀ w, T w) :
    ∀ (fuel : Nat) (listed : Array Bool) (a : Act) (w : World),
      (∀ j oj, ops[j]? = some oj → j ≠ i → listed.getD j true = false → (∀ e ∈ oj.after, Region.binds md e = true → e.on ≠ i) → oi.apart ops oj = true) →
      i ∈ Region.ready md ops listed → YieldsIf P ops T oi v a → T w → (listed.getD n true = false → S w) → ((∀ w, T w) ∨ listed.getD n true = false) →
      Whichever P md ops Q S n fuel (listed.setIfInBounds i true) (a.put oi.dst v) w → Whichever P md ops Q S n (fuel + 1) listed a w := by
  intro fuel
  induction fuel with
  | zero =>
    intro listed a w _ hr hy hTw hSw _ H
    refine ⟨fun h => (by rw [h] at hr; cases hr), fun j hj => ?_⟩
    by_cases hji : j = i
    · subst hji
      exact hy.wpOp hi hTw ⟨fun h => hSw (by rwa [getD_set_ne true (Ne.symm hni)] at h), H⟩
    · have := ready_mono hj hji
      rw [H.1] at this
      cases this
  | succ fuel ih =>
    intro listed a w hfree hr hy hTw hSw hun H
    refine ⟨fun h => (by rw [h] at hr; cases hr), fun j hj => ?_⟩
    by_cases hji : j = i
    · subst hji
      exact hy.wpOp hi hTw ⟨fun h => hSw (by rwa [getD_set_ne true (Ne.symm hni)] at h), H⟩
    · have h1 := H.2 j (ready_mono hj hji)
      have hiun : listed.getD i true = false := (mem_ready.1 hr).1
      obtain ⟨hjun, oj, hoj, hall⟩ := mem_ready.1 hj
      have hnot : ∀ e ∈ oj.after, Region.binds md e = true → e.on ≠ i := fun e he hb heq => by
        have h1 := hall e he hb
        rw [heq] at h1
        rcases Nat.lt_or_ge i listed.size with h' | h'
        · simp [h'] at hiun h1; rw [hiun] at h1; cases h1
        · simp [Array.getElem?_eq_none h'] at h1
      have h2 := wpOp_putIf hoj (hfree j oj hoj hji hjun hnot) (fun cs b => hsel i oi cs b hi) (fun cs b => hsel j oj cs b hoj) hQ hy h1
      have hfree' : ∀ k ok, ops[k]? = some ok → k ≠ i → (listed.setIfInBounds j true).getD k true = false →
          (∀ e ∈ ok.after, Region.binds md e = true → e.on ≠ i) → oi.apart ops ok = true := fun k ok hk hki hun hno => by
        refine hfree k ok hk hki ?_ hno
        by_cases hjk : j = k
        · subst hjk; exact hjun
        · rw [getD_set_ne true hjk] at hun; exact hun
      -- number n has not come up, unless T asks nothing
      have hn' : (∀ w, T w) ∨ (listed.setIfInBounds j true).getD n true = false := by
        rcases hT with ⟨_, hw⟩ | h
        · rcases hun with h | h
          · exact .inl h
          · by_cases hjn : j = n
            · subst hjn; exact absurd hj (waitsB_spec hw hiun)
            · exact .inr (by rw [getD_set_ne true hjn]; exact h)
        · exact .inl h
      have hb : ((listed.setIfInBounds i true).setIfInBounds j true).getD n true = (listed.setIfInBounds j true).getD n true := by
        rw [Array.setIfInBounds_comm _ _ (Ne.symm hji), getD_set_ne true (Ne.symm hni)]
      refine wpOp_mono (fun a' w' h3 => ?_) h2
      have hS' : (listed.setIfInBounds j true).getD n true = false → S w' := fun h => h3.2.1 (by rw [hb]; exact h)
      refine ⟨hS', ih (listed.setIfInBounds j true) a' w' hfree' (ready_mono hr (Ne.symm hji)) h3.1 ?_ hS' hn' ?_⟩
      · rcases hn' with h | h
        · exact h w'
        · rcases hT with ⟨e, _⟩ | h'
          · rw [e]; exact hS' h
          · exact h' w'
      · rw [Array.setIfInBounds_comm _ _ hji]
        exact h3.2.2

/-- Number i first: it reads what S tells, and number n waits for it. -/
theorem Whichever.take {i : Nat} {oi : Oper} {v : Value} {fuel : Nat} {listed : Array Bool} {a : Act} {w : World} (hi : ops[i]? = some oi)
    (hs : Region.noSelect ops = true) (hf : Region.free md ops listed i = true) (hr : (Region.ready md ops listed).contains i = true) (hwt : waitsB md ops n i = true) (hun : listed.getD n true = false) (hni : (n == i) = false)
    (hQ : ∀ c a w, Q (.panic c) (a.put oi.dst v) w → Q (.panic c) a w) (hy : YieldsIf P ops S oi v a) (hS : S w)
    (h : Whichever P md ops Q S n fuel (listed.setIfInBounds i true) (a.put oi.dst v) w) : Whichever P md ops Q S n (fuel + 1) listed a w :=
  Whichever.first hi (Region.noSelect_spec hs) hQ (by simpa using hni) (.inl ⟨rfl, hwt⟩) fuel listed a w (Region.free_spec hi hf) (by simpa using hr) hy hS (fun _ => hS) (.inr hun) h

/-- Number i first: it yields its value in whatever world. -/
theorem Whichever.any {i : Nat} {oi : Oper} {v : Value} {fuel : Nat} {listed : Array Bool} {a : Act} {w : World} (hi : ops[i]? = some oi)
    (hs : Region.noSelect ops = true) (hf : Region.free md ops listed i = true) (hr : (Region.ready md ops listed).contains i = true) (hni : (n == i) = false)
    (hQ : ∀ c a w, Q (.panic c) (a.put oi.dst v) w → Q (.panic c) a w) (hy : YieldsIf P ops (fun _ => True) oi v a) (hS : listed.getD n true = false → S w)
    (h : Whichever P md ops Q S n fuel (listed.setIfInBounds i true) (a.put oi.dst v) w) : Whichever P md ops Q S n (fuel + 1) listed a w :=
  Whichever.first hi (Region.noSelect_spec hs) hQ (by simpa using hni) (.inr fun _ => trivial) fuel listed a w (Region.free_spec hi hf) (by simpa using hr) hy trivial hS (.inl fun _ => trivial) h

/-- One alone may come up. -/
theorem Whichever.one {i : Nat} {o : Oper} {fuel : Nat} {listed : Array Bool} {a : Act} {w : World} (hr : Region.ready md ops listed = [i]) (ho : ops[i]? = some o)
    (h : ∀ K : Act → World → Prop, (∀ a w, ((listed.setIfInBounds i true).getD n true = false → S w) → Whichever P md ops Q S n fuel (listed.setIfInBounds i true) a w → K a w) →
      if Region.wanted o (yielded ops a.tmps) then o.wp P a w K Q else K (a.put o.dst undef) w) : Whichever P md ops Q S n (fuel + 1) listed a w :=
  ⟨fun h0 => absurd (hr ▸ h0) (by simp), fun j hj => by
    rw [hr] at hj
    obtain rfl := List.mem_singleton.1 hj
    exact wpOp_step ho (fun K' hK => h K' (fun a w hS hW => hK a w ⟨hS, hW⟩))⟩

/-- All have come up. -/
theorem Whichever.done {listed : Array Bool} {a : Act} {w : World} (hr : Region.ready md ops listed = []) (h : Q .normal a w) : ∀ fuel, Whichever P md ops Q S n fuel listed a w
  | 0 => ⟨hr, h⟩
  | _ + 1 => ⟨fun _ => h, by rw [hr]; simp⟩
end
end Go.Proofs.Ytldkgmodmpnclaa
