/-
  A region that draws its order, where what an operation yields is told by a word that later worlds keep: each operation is walked once, with the words of those that it waits for.
-/
import Derived.Test.YtfhnamomiaekdaaGreatT10
set_option linter.unusedVariables false
set_option linter.unusedSimpArgs false
namespace Go.Inq
open Go
section
variable {P : Program} {ops : Array Oper} {Q : Exit → Act → World → Prop} {a b a0 : Act}

theorem Flo.congr {vs vs' : Nat → Value} {L : Nat → Bool} (h : Flo ops a0 vs L a) (hv : ∀ j, L j = true → vs j = vs' j) : Flo ops a0 vs' L a :=
  ⟨h.defers, h.size, fun j o t hj hd hl hs => by rw [← hv j hl]; exact h.hit j o t hj hd hl hs, h.miss⟩

theorem wpOp_rel {i : Nat} {o : Oper} {w : World} {R : Value → World → Prop} {K : Act → World → Prop} (ho : ops[i]? = some o) (hsel : ∀ cs b, o.op ≠ .select cs b)
    (hr : ∀ t ∈ readsT ops o, a.tmps[t]? = b.tmps[t]?) (hs : a.tmps.size = b.tmps.size) (hK : ∀ v w', R v w' → K (a.put o.dst v) w')
    (h : wpList P ops (fun e a' w' => e = .normal ∧ ∃ v, a' = b.put o.dst v ∧ R v w') [o] b w) : wpOp P ops Q i K a w := by
  have hw : Region.wanted o (yielded ops a.tmps) = Region.wanted o (yielded ops b.tmps) := by
    unfold Region.wanted
    cases hg : o.guard with
    | none => rfl
    | some g =>
      obtain ⟨j, x⟩ := g
      dsimp only
      have : yielded ops a.tmps j = yielded ops b.tmps j := by
        unfold yielded
        cases hd : (ops[j]?).bind (·.dst) with
        | none => rfl
        | some t =>
          have hm : t ∈ readsT ops o := by
            unfold readsT
            rw [hg]
            refine List.mem_append.2 (.inr ?_)
            show t ∈ ((ops[j]?).bind (·.dst)).toList
            rw [hd]
            simp
          simp only [Option.bind_some]
          rw [hr t hm]
      rw [this]
  have he : execOp a.eval o = execOp b.eval o := by
    refine execOp_congr o hsel fun x hx => ?_
    cases x with
    | tmp t =>
      have hm : t ∈ readsT ops o := by
        unfold readsT
        refine List.mem_append.2 (.inl ?_)
        rw [List.mem_filterMap]
        exact ⟨.tmp t, by simpa using hx, rfl⟩
      have := hr t hm
      simp only [Act.eval, Array.getD_eq_getD_getElem?, this]
    | _ => rfl
  unfold wpOp
  rw [ho]
  dsimp only
  unfold wpList at h
  rw [hw]
  by_cases hwd : Region.wanted o (yielded ops b.tmps) = true
  · rw [if_pos hwd] at h ⊢
    left
    rcases h with h | ⟨_, _, _, h, _⟩
    · unfold Oper.wp at *
      rw [he]
      generalize (execOp b.eval o).run P w = r at h
      have key : ∀ u w', wpList P ops (fun e a' w' => e = .normal ∧ ∃ v, a' = b.put o.dst v ∧ R v w') [] (b.put o.dst u) w' → K (a.put o.dst u) w' := fun u w' h => by
        unfold wpList at h
        obtain ⟨_, v, h1, h2⟩ := h
        rw [put_inj hs h1]
        exact hK v w' h2
      cases r with
      | halt x w' =>
        cases x <;> simp only [Oper.upon] at h ⊢
        exact absurd h.1 (by simp)
      | ok n w' =>
        cases n with
        | value u => exact key u w' h
        | skip => exact key undef w' h
        | defer d =>
          simp only [Oper.upon] at h
          unfold wpList at h
          obtain ⟨_, v, h1, _⟩ := h
          have h1 := congrArg Act.defers h1
          rw [put_defers, put_defers] at h1
          exact absurd (congrArg List.length h1) (by simp)
        | enter f args =>
          simp only [Oper.upon] at h ⊢
          refine Calls.mono h fun e w'' he => ?_
          cases e with
          | returned u => exact key u w'' he
          | panicked c => exact absurd he.1 (by simp)
          | outgrown =>
            obtain ⟨_, _, h1, _⟩ := he
            cases h1
        | row r args =>
          simp only [Oper.upon] at h ⊢
          exact Rows.mono h fun u w'' he => key u w'' he
        | _ => simp only [Oper.upon] at h
    · cases h
  · rw [if_neg hwd] at h ⊢
    unfold wpList at h
    obtain ⟨_, v, h1, h2⟩ := h
    rw [put_inj hs h1]
    exact hK v w h2

/-- The act behind the first i operations, in the row's order. -/
def acV (ops : Array Oper) (a0 : Act) (vs : Nat → Value) : Nat → Act
  | 0 => a0
  | i + 1 => match ops[i]? with
    | some o => (acV ops a0 vs i).put o.dst (vs i)
    | none => acV ops a0 vs i

theorem acV_flo (hB : floatB ops = true) (vs : Nat → Value) : ∀ i, Flo ops a0 vs (fun j => decide (j < i)) (acV ops a0 vs i)
  | 0 => Flo.start fun j => by simp
  | i + 1 => by
    unfold acV
    have ih := acV_flo hB vs i
    cases hx : ops[i]? with
    | none =>
      have hle : ops.size ≤ i := by
        rcases Nat.lt_or_ge i ops.size with h1 | h1
        · rw [Array.getElem?_eq_getElem h1] at hx; cases hx
        · exact h1
      dsimp only
      refine ⟨ih.defers, ih.size, fun j o t hj hd hlt hs => ih.hit j o t hj hd ?_ hs, fun t ht => ih.miss t fun j o hj hd => ?_⟩
      · have := (Array.getElem?_eq_some_iff.1 hj).1
        simp at this ⊢
        omega
      · have := ht j o hj hd
        simp at this ⊢
        omega
    | some o =>
      dsimp only
      refine ih.put hB hx fun j => ?_
      rw [Bool.eq_iff_iff]
      simp
      omega
def updV (vs : Nat → Value) (i : Nat) (v : Value) : Nat → Value := fun j => if j = i then v else vs j

theorem wpAny_rel {Rs : Nat → (Nat → Value) → World → Prop} {S : World → Prop} {St : Nat → World → World → Prop} (hB : floatB ops = true) (dp : Nat → List Nat) (hdp : ∀ i j, j ∈ dp i → waitsT .any ops ops.size i j = true)
    (kl : Nat → List Nat) (hkl : ∀ i j k, i < ops.size → k < ops.size → j ∈ kl i → j ∈ dp k → k = i ∨ waitsT .any ops ops.size i k = true)
    (hcg : ∀ j vs vs' w, (∀ k, k = j ∨ k ∈ dp j → vs k = vs' k) → Rs j vs w → Rs j vs' w) (hR : ∀ i j vs w w', j ≠ i → j ∉ kl i → Rs j vs w → St i w w' → Rs j vs w')
    (hstep : ∀ i o, ops[i]? = some o → ∀ (vs : Nat → Value) w, S w → (∀ j ∈ dp i, Rs j vs w) → wpList P ops (fun e a' w' => e = .normal ∧ ∃ v, a' = (acV ops a0 vs i).put o.dst v ∧ Rs i (updV vs i v) w' ∧ S w' ∧ St i w w') [o] (acV ops a0 vs i) w)
    (hend : ∀ (vs : Nat → Value) w, S w → (∀ j, j < ops.size → (∀ i, i < ops.size → j ∉ kl i) → Rs j vs w) → Q .normal (acV ops a0 vs ops.size) w) :
    ∀ (fuel : Nat) (listed : Array Bool) (a : Act) (w : World) (vs : Nat → Value), Closed .any ops listed → listed.size = ops.size → lacks ops.size (fun j => listed.getD j false) = fuel → Flo ops a0 vs (fun j => listed.getD j false) a → S w →
      (∀ j, listed.getD j false = true → (∀ i, listed.getD i false = true → j ∉ kl i) → Rs j vs w) → wpAny P .any ops Q fuel listed a w := by
  have hnone : ∀ (listed : Array Bool), listed.size = ops.size → Region.ready .any ops listed = [] → ∀ i, i < ops.size → listed.getD i false = true := by
    intro listed hsz hr i
    induction i using Nat.strongRecOn with
    | _ i ih =>
      intro hi
      cases hl : listed.getD i false with
      | true => rfl
      | false =>
        exfalso
        have ho : ops[i]? = some ops[i] := Array.getElem?_eq_getElem hi
        have hm : i ∈ Region.ready .any ops listed := by
          rw [mem_ready]
          refine ⟨?_, ops[i], ho, fun e he hb => ?_⟩
          · have hi2 : i < listed.size := by omega
            simp only [Array.getD_eq_getD_getElem?, Array.getElem?_eq_getElem hi2, Option.getD_some] at hl ⊢
            exact hl
          · have h1 := floatB_after hB ho e he hb
            exact ih e.on h1 (by omega)
        rw [hr] at hm
        cases hm
  have hfin : ∀ (listed : Array Bool) (a : Act) (w : World) (vs : Nat → Value), listed.size = ops.size → (∀ i, i < ops.size → listed.getD i false = true) → Flo ops a0 vs (fun j => listed.getD j false) a → S w → (∀ j, listed.getD j false = true → (∀ i, listed.getD i false = true → j ∉ kl i) → Rs j vs w) → Q .normal a w := by
    intro listed a w vs hlsz hall hf hS hRs
    have hac := acV_flo (a0 := a0) hB vs ops.size
    have : a = acV ops a0 vs ops.size := by
      have h1 : a.tmps = (acV ops a0 vs ops.size).tmps := by
        refine Array.ext_getElem? fun t => ?_
        refine hf.agree hac fun j o hj _ => ?_
        have hjs := (Array.getElem?_eq_some_iff.1 hj).1
        rw [hall j hjs]
        simp [hjs]
      have h2 : a.defers = (acV ops a0 vs ops.size).defers := by rw [hf.defers, hac.defers]
      cases a
      cases hx : acV ops a0 vs ops.size
      rw [hx] at h1 h2
      simp only at h1 h2
      rw [h1, h2]
    rw [this]
    refine hend vs w hS fun j hj hk => hRs j (hall j hj) fun i hi => hk i ?_
    rcases Nat.lt_or_ge i ops.size with h | h
    · exact h
    · rw [Array.getD_eq_getD_getElem?, Array.getElem?_eq_none (by omega)] at hi; cases hi
  intro fuel
  induction fuel with
  | zero =>
    intro listed a w vs hcl hsz hlk hf hS hRs
    have hall := lacks_all _ _ hlk
    refine ⟨?_, hfin listed a w vs hsz hall hf hS hRs⟩
    rw [List.eq_nil_iff_forall_not_mem]
    intro i hi
    obtain ⟨h1, o, ho, _⟩ := mem_ready.1 hi
    have his := (Array.getElem?_eq_some_iff.1 ho).1
    have h2 := hall i his
    have hi2 : i < listed.size := by omega
    simp only [Array.getD_eq_getD_getElem?, Array.getElem?_eq_getElem hi2, Option.getD_some] at h1 h2
    rw [h1] at h2
    cases h2
  | succ fuel ih =>
    intro listed a w vs hcl hsz hlk hf hS hRs
    refine ⟨fun hr => hfin listed a w vs hsz (hnone listed hsz hr) hf hS hRs, fun i hi => ?_⟩
    obtain ⟨h1, o, ho, hall⟩ := mem_ready.1 hi
    have his := (Array.getElem?_eq_some_iff.1 ho).1
    have hi2 : i < listed.size := by omega
    have hun : listed.getD i false = false := by
      simp only [Array.getD_eq_getD_getElem?, Array.getElem?_eq_getElem hi2, Option.getD_some] at h1 ⊢
      exact h1
    have hset : ∀ j, (listed.setIfInBounds i true).getD j false = (listed.getD j false || decide (j = i)) := fun j => by
      by_cases hji : j = i
      · subst hji
        simp [Array.getD_eq_getD_getElem?, hi2]
      · rw [getD_set_ne false (Ne.symm hji)]
        simp [hji]
    have hsel := fun cs b => Region.noSelect_spec (ops := ops) (by unfold floatB at hB; rw [Bool.and_eq_true] at hB; exact hB.1) i o cs b ho
    have hac := acV_flo (a0 := a0) hB vs i
    refine wpOp_rel (b := acV ops a0 vs i) (R := fun v w' => Rs i (updV vs i v) w' ∧ S w' ∧ St i w w') ho hsel (fun t ht => ?_) (by rw [hf.size, hac.size]) (fun v w' hS' => ?_) (hstep i o ho vs w hS fun j hj => hRs j (hcl.ready (hdp i j hj) hi) fun i' hi' hk => by
      have hi's : i' < ops.size := by
        rcases Nat.lt_or_ge i' ops.size with h | h
        · exact h
        · rw [Array.getD_eq_getD_getElem?, Array.getElem?_eq_none (by omega)] at hi'; cases hi'
      rcases hkl i' j i hi's his hk hj with e | e
      · subst e; rw [hun] at hi'; cases hi'
      · have := hcl.waits _ _ _ e hi'
        rw [hun] at this
        cases this)
    · refine hf.agree hac fun j oj hj hd => ?_
      rcases (floatB_pair hB ho hj hd).2 ht with ⟨h2, h3⟩ | ⟨h2, h3⟩ | h2
      · rw [hcl.ready h3 hi]
        simp [h2]
      · have h4 : decide (j < i) = false := by simp; omega
        rw [h4]
        cases hlj : listed.getD j false with
        | false => rfl
        | true =>
          have := hcl.waits _ _ _ h3 hlj
          rw [hun] at this
          cases this
      · subst h2
        rw [hun]
        simp
    · obtain ⟨hv, hS2, hst⟩ := hS'
      have hf2 : Flo ops a0 (updV vs i v) (fun j => listed.getD j false) a := hf.congr fun j hj => by
        unfold updV
        rw [if_neg]
        rintro rfl
        rw [hun] at hj
        cases hj
      have hput := hf2.put hB ho hset
      have hvi : updV vs i v i = v := by simp [updV]
      rw [hvi] at hput
      refine ih (listed.setIfInBounds i true) _ w' (updV vs i v) (hcl.set_ hi) (by rw [Array.size_setIfInBounds]; exact hsz) ?_ hput hS2 fun j hj hkj => ?_
      · have := lacks_one (f := fun j => listed.getD j false) (g := fun j => (listed.setIfInBounds i true).getD j false) hun hset ops.size his
        omega
      · rw [hset] at hj
        by_cases hji : j = i
        · subst hji; exact hv
        · have hjl : listed.getD j false = true := by simpa [hji] using hj
          refine hcg j vs _ _ (fun k hk => ?_) (hR i j _ _ _ hji (hkj i (by rw [hset]; simp)) (hRs j hjl fun i' hi' => hkj i' (by rw [hset, hi']; rfl)) hst)
          unfold updV
          rw [if_neg]
          rintro rfl
          rcases hk with e | hk
          · exact hji e.symm
          · have := hcl.waits _ _ _ (hdp j k hk) hjl
            rw [hun] at this
            cases this

/-- How the walk of one operation ends. -/
def RelEnd (R : Value → World → Prop) (a : Act) (d : Option Tmp) : Exit → Act → World → Prop := fun e a' w' => e = .normal ∧ ∃ v, a' = a.put d v ∧ R v w'
/-- A REGION THAT DRAWS ITS ORDER, BY WORDS: Rs i tells what operation i yields, in any later world; dp i are those whose words it wants. -/
theorem wp_region_rel {id : Nat} {w : World} {l : List Oper} (Rs : Nat → (Nat → Value) → World → Prop) (S : World → Prop) (St : Nat → World → World → Prop) (dp : Nat → List Nat) (hm : P.follows .mixedOrders = true) (hB : floatB l.toArray = true)
    (hdp : ((List.range l.length).all fun i => (dp i).all fun j => waitsT .any l.toArray l.length i j) = true) (hdp0 : ∀ i, l.length ≤ i → dp i = [])
    (kl : Nat → List Nat) (hkl : ((List.range l.length).all fun i => (kl i).all fun j => (List.range l.length).all fun k => !(dp k).contains j || k == i || waitsT .any l.toArray l.length i k) = true)
    (hcg : ∀ j vs vs' w, (∀ k, k = j ∨ k ∈ dp j → vs k = vs' k) → Rs j vs w → Rs j vs' w) (hR : ∀ i j vs w w', j ≠ i → j ∉ kl i → Rs j vs w → St i w w' → Rs j vs w') (hS : S w.drew)
    (hstep : ∀ i o, l[i]? = some o → ∀ (vs : Nat → Value) w, S w → (∀ j ∈ dp i, Rs j vs w) → wpList P l.toArray (RelEnd (fun v w' => Rs i (updV vs i v) w' ∧ S w' ∧ St i w w') (acV l.toArray a vs i) o.dst) [o] (acV l.toArray a vs i) w)
    (hend : ∀ (vs : Nat → Value) w, S w → (∀ j, j < l.length → (∀ i, i < l.length → j ∉ kl i) → Rs j vs w) → Q .normal (acV l.toArray a vs l.length) w) : (Code.region id l.toArray true).wp P Q a w := by
  have hsz : l.toArray.size = l.length := by simp
  have hget : ∀ i : Nat, l.toArray[i]? = l[i]? := fun i => List.getElem?_toArray ..
  refine wp_region_any hm ?_
  refine wpAny_rel (Rs := Rs) (S := S) (St := St) hB dp (fun i j hj => ?_) kl (fun i j k hi hk hj hd => ?_) hcg hR (fun i o ho => hstep i o (by rw [← hget]; exact ho)) (fun vs w h1 h2 => by rw [hsz]; exact hend vs w h1 (by rw [← hsz]; exact h2)) _ _ a _ (fun _ => undef) (Closed.start _ _ _) (by simp) ?_ (Flo.start fun j => getD_replicate_false _ _) hS (fun j hj _ => by rw [getD_replicate_false] at hj; cases hj)
  · rw [hsz]
    rcases Nat.lt_or_ge i l.length with h | h
    · exact List.all_eq_true.1 (List.all_eq_true.1 hdp i (List.mem_range.2 h)) j hj
    · rw [hdp0 i h] at hj; cases hj
  · rw [hsz] at hi hk ⊢
    have h1 := List.all_eq_true.1 (List.all_eq_true.1 (List.all_eq_true.1 hkl i (List.mem_range.2 hi)) j hj) k (List.mem_range.2 hk)
    rw [Bool.or_eq_true, Bool.or_eq_true, Bool.not_eq_true', beq_iff_eq] at h1
    rcases h1 with (h1 | h1) | h1
    · rw [List.contains_iff_mem.2 hd] at h1; cases h1
    · exact .inl h1
    · exact .inr h1
  · have : (fun j => (Array.replicate l.toArray.size false).getD j false) = fun _ => false := funext fun j => getD_replicate_false _ _
    rw [this, lacks_none]
end
end Go.Inq
