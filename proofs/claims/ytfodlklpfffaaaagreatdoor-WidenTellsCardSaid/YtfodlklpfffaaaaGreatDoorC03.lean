/-
  A region that draws its order: operations that only look are taken first, in a planned order, and what is left is a forced row: one walk serves every order.
  Conditions: the plan is checked by the kernel (planB).
-/
import Derived.OrdersHeld
import Derived.StillTail
import Derived.Conc.Events
import Derived.Laws.AppendOwn
import Derived.Laws.Panics
import Derived.KernelRfl
import Derived.Deep.OwnRows
import Derived.Laws.CopyOwn
import Derived.Test.YtfodlklpfffaaaaGreatDoorC02
set_option linter.unusedVariables false
set_option linter.unusedSimpArgs false
namespace Go.Inq
open Go

/-- A computation that, where it yields, leaves the world as it is and yields the same in every world. -/
def Clear {α : Type} (e : Sem α) : Prop := ∀ (P : Program) w v w', e.run P w = .ok v w' → w' = w ∧ ∀ u, e.run P u = .ok v u

section
variable {α β : Type}
theorem Clear.pure (a : α) : Clear (Pure.pure a : Sem α) := fun P w v w' h => by
  simp at h
  obtain ⟨rfl, rfl⟩ := h
  exact ⟨rfl, fun u => by simp⟩
theorem Clear.halt (x : Halt) : Clear (Sem.halt x : Sem α) := fun P w v w' h => by simp [Sem.run] at h
theorem Clear.never {e : Sem α} (h : ∀ (P : Program) w v w', e.run P w ≠ .ok v w') : Clear e := fun P w v w' h' => absurd h' (h P w v w')
theorem Clear.bind {e : Sem α} {f : α → Sem β} (he : Clear e) (hf : ∀ a, Clear (f a)) : Clear (e >>= f) := fun P w v w' h => by
  rw [Sem.run_bind] at h
  cases hr : e.run P w with
  | halt x w1 => rw [hr] at h; simp [Result.andThen] at h
  | ok a w1 =>
    rw [hr] at h
    obtain ⟨rfl, h1⟩ := he P w a w1 hr
    simp only [Result.andThen] at h
    obtain ⟨rfl, h2⟩ := hf a P _ v w' h
    exact ⟨rfl, fun u => by rw [Sem.run_bind, h1 u]; simp only [Result.andThen]; exact h2 u⟩
theorem Clear.program : Clear Go.program := fun P w v w' h => by
  simp [Go.program, Sem.run] at h
  obtain ⟨rfl, rfl⟩ := h
  exact ⟨rfl, fun u => by simp [Go.program, Sem.run]⟩
theorem Clear.bounds (k : IntKind) (x y : Int) (c : BoundsCode) : Clear (boundsPanic k x y c : Sem α) := Clear.never fun P w v w' h => by
  obtain ⟨s, w2, h2⟩ := run_boundsPanic (α := α) (P := P) (w := w) k x y c
  rw [h2] at h
  cases h
theorem Clear.underlying (t : TypeId) : Clear (Go.underlying t) := Clear.bind Clear.program fun p => by
  split
  · exact Clear.pure _
  · exact Clear.halt _
theorem Clear.typeInfo (t : TypeId) : Clear (Go.typeInfo t) := Clear.bind Clear.program fun p => by
  split
  · exact Clear.pure _
  · exact Clear.halt _
theorem Clear.sizeOf (t : TypeId) : Clear (Go.sizeOf t) := Clear.bind (Clear.typeInfo t) fun _ => Clear.pure _
theorem Clear.zeroValue (t : TypeId) : Clear (Go.zeroValue t) := Clear.bind (Clear.typeInfo t) fun _ => by
  split
  · exact Clear.pure _
  · exact Clear.halt _
theorem Clear.nilDeref {α : Type} : Clear (runtimePanic .nilDeref : Sem α) := by
  unfold runtimePanic
  exact Clear.bind Clear.program fun p => Clear.halt _
theorem Clear.sureAddr (v : Value) : Clear (Instr.sureAddr v) := by
  unfold Instr.sureAddr
  split
  · exact Clear.pure _
  · exact Clear.halt _
theorem Clear.asIntOf (v : Value) : Clear (asIntOf v) := by
  unfold Go.asIntOf
  split
  · exact Clear.pure _
  · exact Clear.halt _
  · exact Clear.halt _
theorem Clear.asBool (v : Value) : Clear (asBool v) := by
  unfold Go.asBool
  split
  · exact Clear.pure _
  · exact Clear.halt _
theorem Clear.mapM {γ δ : Type} (f : γ → Sem δ) (hf : ∀ a, Clear (f a)) : ∀ (l : List γ), Clear (l.mapM f)
  | [] => by rw [List.mapM_nil]; exact Clear.pure _
  | a :: l => by
    rw [List.mapM_cons]
    exact Clear.bind (hf a) fun _ => Clear.bind (Clear.mapM f hf l) fun _ => Clear.pure _
theorem Clear.arrayMapM {γ δ : Type} (f : γ → Sem δ) (hf : ∀ a, Clear (f a)) (xs : Array γ) : Clear (xs.mapM f) := by
  obtain ⟨l⟩ := xs
  rw [List.mapM_toArray]
  have h := Clear.mapM f hf l
  intro P w v w' hr
  rw [Sem.run_map] at hr
  cases hl : (l.mapM f).run P w with
  | halt x w1 => rw [hl] at hr; simp [Result.andThen] at hr
  | ok a w1 =>
    rw [hl] at hr
    simp only [Result.andThen] at hr
    obtain ⟨rfl, h1⟩ := h P w a w1 hl
    injection hr with e1 e2
    exact ⟨e2.symm, fun u => by rw [Sem.run_map, h1 u]; simp only [Result.andThen]; rw [e1]⟩
theorem Clear.indexAt (t : TypeId) (x i : Value) : Clear (Instr.indexAt t x i) := by
  unfold Instr.indexAt
  refine Clear.bind (Clear.asIntOf i) fun ki => ?_
  obtain ⟨k, i⟩ := ki
  refine Clear.bind (Clear.underlying t) fun d => ?_
  extract_lets jp
  have hj : ∀ q, Clear (jp q) := by
    rintro ⟨base, len, elem⟩
    refine Clear.bind (Clear.underlying t) fun d2 => ?_
    extract_lets tiny
    split
    · split
      · exact Clear.bind (Clear.sizeOf _) fun _ => Clear.pure _
      · split
        · exact Clear.halt _
        · exact Clear.bounds _ _ _ _
    · exact Clear.bounds _ _ _ _
  split
  · exact Clear.bind (Clear.sureAddr _) fun _ => Clear.bind (Clear.pure _) hj
  · exact Clear.bind (Clear.pure _) hj
  · exact Clear.bind (Clear.halt _) hj
theorem Clear.build (t : TypeId) (parts : Array (Nat × Value)) : Clear (Instr.build t parts) := by
  unfold Instr.build
  refine Clear.bind (Clear.zeroValue t) fun z => ?_
  refine Clear.bind (Clear.underlying t) fun d => ?_
  split
  · refine Clear.bind (Clear.arrayMapM _ (fun f => Clear.bind (Clear.sizeOf _) fun _ => Clear.pure _) _) fun ps => ?_
    split
    · exact Clear.pure _
    · exact Clear.halt _
  · refine Clear.bind (Clear.sizeOf _) fun s => ?_
    split
    · exact Clear.pure _
    · exact Clear.halt _
  · exact Clear.halt _
theorem Clear.extract (v : Value) (i : Nat) : Clear (Instr.extract v i) := by
  unfold Instr.extract
  split
  · split
    · exact Clear.pure _
    · exact Clear.halt _
  · exact Clear.halt _
end

theorem Clear.isAgg (t : TypeId) : Clear (Go.isAgg t) := Clear.bind (Clear.underlying t) fun _ => by
  split
  · exact Clear.pure _
  · exact Clear.pure _
  · exact Clear.pure _
theorem Clear.part (t : TypeId) (cs : Array Value) (i : Nat) : Clear (Go.part t cs i) := by
  unfold Go.part
  refine Clear.bind (Clear.isAgg _) fun b => ?_
  split
  · exact Clear.bind (Clear.sizeOf _) fun _ => Clear.pure _
  · split
    · exact Clear.pure _
    · exact Clear.halt _
theorem Clear.followBlind : ∀ (l : List FieldStep) (t : TypeId) (x : Option Value), Clear (Go.followBlind l t x)
  | [], t, x => Clear.pure _
  | s :: rest, t, x => by
    unfold Go.followBlind
    refine Clear.bind (Clear.underlying _) fun d => ?_
    split
    · split
      · split
        · exact Clear.pure _
        · exact Clear.followBlind rest _ _
        · exact Clear.halt _
        · exact Clear.pure _
        · exact Clear.bind (Clear.part _ _ _) fun _ => Clear.followBlind rest _ _
        · exact Clear.halt _
        · exact Clear.followBlind rest _ _
      · exact Clear.halt _
    · exact Clear.halt _
theorem Clear.nilAhead : ∀ (n : Nat) (t : TypeId) (v : Value) (name : String), Clear (Go.nilAhead n t v name)
  | 0, _, _, _ => Clear.pure _
  | n + 1, t, v, name => by
    unfold Go.nilAhead
    refine Clear.bind (Clear.typeInfo _) fun i => ?_
    split
    · refine Clear.bind (Clear.followBlind _ _ _) fun r => ?_
      split
      · exact Clear.pure _
      · split
        · exact Clear.nilAhead n _ _ _
        · exact Clear.pure _
        · exact Clear.halt _
        · exact Clear.pure _
        · exact Clear.pure _
        · refine Clear.bind (Clear.underlying _) fun d => ?_
          split <;> exact Clear.pure _
    · exact Clear.halt _

/-- The kinds of operations that yield the same in every world. -/
def worldless (P : Program) : Op → Bool
  | .move _ | .assign _ | .pick .. | .build .. | .indexAddr .. | .extract .. | .makeFunc .. | .nilCheck _ => true
  | .fieldAddr s _ f => match P.underlying s with
    | some (.struct fs) => match fs[f]? with
      | some g => match P.info? g.type with
        | some i => i.size != 0
        | none => false
      | none => false
    | _ => false
  | _ => false

/-- Where such an operation yields, it yields the same in every world. -/
theorem worldless_spec {P : Program} {ρ : Operand → Value} {o : Oper} (h : worldless P o.op = true) {w w' : World} {n : Next} (hr : (execOp ρ o).run P w = .ok n w') :
    ∀ u, (execOp ρ o).run P u = .ok n u := by
  have lift : ∀ (s : Sem Value), Clear s → (do pure (.value (← s)) : Sem Next).run P w = .ok n w' → ∀ u, (do pure (.value (← s)) : Sem Next).run P u = .ok n u :=
    fun s hs h u => (Clear.bind hs (fun _ => Clear.pure _) P w n w' h).2 u
  cases ho : o.op <;> rw [ho] at h <;> simp [worldless] at h
  case move x =>
    have e : execOp ρ o = Pure.pure (.value (ρ x)) := by unfold execOp; rw [ho]
    rw [e] at hr ⊢
    exact (Clear.pure _ P w n w' hr).2
  case assign x =>
    have e : execOp ρ o = Pure.pure (.value (ρ x)) := by unfold execOp; rw [ho]
    rw [e] at hr ⊢
    exact (Clear.pure _ P w n w' hr).2
  case nilCheck x =>
    have c : Clear (execOp ρ o) := by
      unfold execOp
      rw [ho]
      dsimp only
      split
      · exact Clear.nilDeref
      · exact Clear.nilDeref
      · exact Clear.nilDeref
      · split
        · exact Clear.nilDeref
        · refine Clear.bind Clear.program fun p => ?_
          refine Clear.bind (Clear.nilAhead _ _ _ _) fun r => ?_
          split
          · exact Clear.bind (Clear.halt _) fun _ => Clear.pure _
          · exact Clear.pure _
        · exact Clear.pure _
      · exact Clear.pure _
    exact (c P w n w' hr).2
  case pick c a b =>
    have e : execOp ρ o = (do Pure.pure (.value (if ← asBool (ρ c) then ρ a else ρ b))) := by unfold execOp; rw [ho]
    rw [e] at hr ⊢
    exact (Clear.bind (Clear.asBool _) (fun _ => Clear.pure _) P w n w' hr).2
  case build t ps =>
    have e : execOp ρ o = (do Pure.pure (.value (← Instr.build t (ps.map fun (i, x) => (i, ρ x))))) := by unfold execOp; rw [ho]
    rw [e] at hr ⊢
    exact lift _ (Clear.build _ _) hr
  case makeFunc fn a b =>
    have e : execOp ρ o = (do Pure.pure (.value (← Instr.makeFunc fn (a.map ρ) (b.map ρ)))) := by unfold execOp; rw [ho]
    rw [e] at hr ⊢
    exact lift _ (Clear.pure _) hr
  case indexAddr t x i =>
    have e : execOp ρ o = (do Pure.pure (.value (← Instr.indexAt t (ρ x) (ρ i)))) := by unfold execOp; rw [ho]
    rw [e] at hr ⊢
    exact lift _ (Clear.indexAt _ _ _) hr
  case extract t i =>
    have e : execOp ρ o = (do Pure.pure (.value (← Instr.extract (ρ t) i))) := by unfold execOp; rw [ho]
    rw [e] at hr ⊢
    exact lift _ (Clear.extract _ _) hr
  case fieldAddr s x f =>
    have e : execOp ρ o = (do Pure.pure (.value (← Instr.fieldAt s (ρ x) f))) := by unfold execOp; rw [ho]
    rw [e] at hr ⊢
    split at h
    case h_2 => cases h
    case h_1 fs hu =>
      split at h
      case h_2 => cases h
      case h_1 g hg =>
        split at h
        case h_2 => cases h
        case h_1 i hi =>
          have hsz : i.size ≠ 0 := by simpa using h
          have key : ∀ u, (Instr.fieldAt s (ρ x) f).run P u = (Instr.sureAddr (ρ x) >>= fun a => Pure.pure (Value.pointer (some (a.add g.offset)))).run P u := fun u => by
            unfold Instr.fieldAt
            rw [Sem.run_bind]
            have h1 : (Go.underlying s).run P u = .ok (.struct fs) u := by simp [Go.underlying, Go.program, Sem.run, hu]
            rw [h1]
            simp only [Result.andThen, hg]
            rw [Sem.run_bind, Sem.run_bind]
            congr 1
            funext a u'
            have h2 : (Go.fieldPlace a g).run P u' = .ok (a.add g.offset) u' := by
              unfold Go.fieldPlace
              simp [Go.sizeOf, Go.typeInfo, Go.program, Sem.run, hi, hsz]
            rw [Sem.run_bind, h2]
            rfl
          have c : Clear (Instr.sureAddr (ρ x) >>= fun a => (Pure.pure (Value.pointer (some (a.add g.offset))) : Sem Value)) := Clear.bind (Clear.sureAddr _) fun _ => Clear.pure _
          have both : ∀ u, (do Pure.pure (.value (← Instr.fieldAt s (ρ x) f)) : Sem Next).run P u = (do Pure.pure (.value (← (Instr.sureAddr (ρ x) >>= fun a => (Pure.pure (Value.pointer (some (a.add g.offset))) : Sem Value)))) : Sem Next).run P u := fun u => by
            rw [Sem.run_bind, Sem.run_bind, key u]
          intro u
          exact (both u).trans (lift _ c ((both w).symm.trans hr) u)

/-- w' is w with more blocks. -/
def Ext (w w' : World) : Prop := w.heap.size ≤ w'.heap.size ∧ ∀ b, b < w.heap.size → w'.heap[b]? = w.heap[b]?
theorem Ext.refl (w : World) : Ext w w := ⟨Nat.le_refl _, fun _ _ => rfl⟩
theorem Ext.trans {a b c : World} (h : Ext a b) (h' : Ext b c) : Ext a c := ⟨Nat.le_trans h.1 h'.1, fun k hk => (h'.2 k (Nat.lt_of_lt_of_le hk h.1)).trans (h.2 k hk)⟩

/-- Where it yields, it leaves the world as it is, and yields the same in every world with more blocks. -/
def Stb {α : Type} (e : Sem α) : Prop := ∀ (P : Program) w v w', e.run P w = .ok v w' → w' = w ∧ ∀ u, Ext w u → e.run P u = .ok v u
theorem Clear.stb {α : Type} {e : Sem α} (h : Clear e) : Stb e := fun P w v w' hr => ⟨(h P w v w' hr).1, fun u _ => (h P w v w' hr).2 u⟩
theorem Stb.bind {α β : Type} {e : Sem α} {f : α → Sem β} (he : Stb e) (hf : ∀ a, Stb (f a)) : Stb (e >>= f) := fun P w v w' h => by
  rw [Sem.run_bind] at h
  cases hr : e.run P w with
  | halt x w1 => rw [hr] at h; simp [Result.andThen] at h
  | ok a w1 =>
    rw [hr] at h
    obtain ⟨rfl, h1⟩ := he P w a w1 hr
    simp only [Result.andThen] at h
    obtain ⟨rfl, h2⟩ := hf a P _ v w' h
    exact ⟨rfl, fun u hu => by rw [Sem.run_bind, h1 u hu]; simp only [Result.andThen]; exact h2 u hu⟩

theorem seen_some {P : Program} {w : World} {at_ : Addr} {t : TypeId} {k : Addr} {b : Bool} {r} (h : w.seen P at_ t k b = .ok r) : ∃ c e f, w.heap[at_.block]? = some (.cells c e f) := by
  cases hh : w.heap[at_.block]? with
  | none =>
    exfalso
    unfold World.seen at h
    rw [hh] at h
    simp only [bind, Except.bind] at h
    repeat' split at h
    all_goals first | cases h | (rename_i hx; cases hx)
  | some o =>
    cases o with
    | cells c e f => exact ⟨c, e, f, rfl⟩
    | _ =>
      exfalso
      unfold World.seen at h
      rw [hh] at h
      simp only [bind, Except.bind] at h
      repeat' split at h
      all_goals first | cases h | (rename_i hx; cases hx)
theorem seen_congr {P : Program} {w u : World} {at_ : Addr} {t : TypeId} {k : Addr} {b : Bool} (h : u.heap[at_.block]? = w.heap[at_.block]?) : u.seen P at_ t k b = w.seen P at_ t k b := by
  unfold World.seen
  rw [h]
theorem lt_of_some {w : World} {b : Nat} {o : Obj} (h : w.heap[b]? = some o) : b < w.heap.size := (Array.getElem?_eq_some_iff.1 h).1

theorem Stb.load (a : Addr) : Stb (Go.load a) := fun P w v w' h => by
  unfold Go.load at h ⊢
  simp only [Sem.run] at h ⊢
  cases hc : w.cell? a with
  | some x =>
    rw [hc] at h
    simp only [Result.ok.injEq] at h
    obtain ⟨rfl, rfl⟩ := h
    refine ⟨rfl, fun u hu => ?_⟩
    have hb : a.block < w.heap.size := World.block_lt_of_cell? w a hc
    rw [World.cell?_of_block (w := w) (hu.2 _ hb), hc]
  | none =>
    rw [hc] at h
    dsimp only at h
    unfold World.farLoad at h ⊢
    cases hh : w.heap[a.block]? with
    | none => rw [hh] at h; simp at h
    | some o =>
      have hb := lt_of_some hh
      have hcu : ∀ u, Ext w u → u.cell? a = none := fun u hu => by rw [World.cell?_of_block (w := w) (hu.2 _ hb), hc]
      rw [hh] at h
      cases o with
      | view at_ t =>
        dsimp only at h
        cases hv : w.viewLoad P at_ t a (Mode.plain == Mode.atomic) with
        | error e => rw [hv] at h; simp at h
        | ok r =>
          rw [hv] at h
          dsimp only at h
          simp only [Result.ok.injEq] at h
          obtain ⟨rfl, rfl⟩ := h
          refine ⟨rfl, fun u hu => ?_⟩
          rw [hcu u hu]
          dsimp only
          rw [hu.2 _ hb, hh]
          dsimp only
          have hs : ∃ r, w.seen P at_ t a (Mode.plain == Mode.atomic) = .ok r := by
            cases hsn : w.seen P at_ t a (Mode.plain == Mode.atomic) with
            | error e => unfold World.viewLoad at hv; rw [hsn] at hv; cases hv
            | ok r => exact ⟨r, rfl⟩
          obtain ⟨r2, hs⟩ := hs
          obtain ⟨c, e, f, hcc⟩ := seen_some hs
          have hvu : u.viewLoad P at_ t a (Mode.plain == Mode.atomic) = w.viewLoad P at_ t a (Mode.plain == Mode.atomic) := by
            unfold World.viewLoad
            rw [seen_congr (hu.2 _ (lt_of_some hcc))]
          rw [hvu, hv]
      | _ => simp at h

theorem Stb.loadCellsFrom (a : Addr) : ∀ (n i : Nat) (acc : Array Value), Stb (Go.loadCellsFrom a i n acc)
  | 0, i, acc => by unfold Go.loadCellsFrom; exact (Clear.pure _).stb
  | n + 1, i, acc => by unfold Go.loadCellsFrom; exact Stb.bind (Stb.load _) fun v => Stb.loadCellsFrom a n (i + 1) _
theorem Stb.loadAt (t : TypeId) (v : Value) : Stb (Instr.loadAt t v) := by
  unfold Instr.loadAt
  refine Stb.bind (Clear.sureAddr v).stb fun a => ?_
  unfold Go.loadVar
  refine Stb.bind (Clear.isAgg t).stb fun b => ?_
  split
  · exact Stb.bind (Clear.sizeOf t).stb fun n => Stb.bind (by unfold Go.loadCells; exact Stb.loadCellsFrom a n 0 _) fun _ => (Clear.pure _).stb
  · exact Stb.load a

/-- Where it yields, it has only made blocks. -/
def Grow {α : Type} (e : Sem α) : Prop := ∀ (P : Program) w v w', e.run P w = .ok v w' → Ext w w'
theorem Clear.grow {α : Type} {e : Sem α} (h : Clear e) : Grow e := fun P w v w' hr => by rw [(h P w v w' hr).1]; exact Ext.refl _
theorem Grow.bind {α β : Type} {e : Sem α} {f : α → Sem β} (he : Grow e) (hf : ∀ a, Grow (f a)) : Grow (e >>= f) := fun P w v w' h => by
  rw [Sem.run_bind] at h
  cases hr : e.run P w with
  | halt x w1 => rw [hr] at h; simp [Result.andThen] at h
  | ok a w1 =>
    rw [hr] at h
    simp only [Result.andThen] at h
    exact (he P w a w1 hr).trans (hf a P _ v w' h)
theorem Grow.newObj (o : Obj) : Grow (Go.newObj o) := fun P w v w' h => by
  unfold Go.newObj at h
  simp only [Sem.run, Result.ok.injEq] at h
  obtain ⟨_, rfl⟩ := h
  refine ⟨by simp, fun b hb => ?_⟩
  show (w.heap.push o)[b]? = _
  rw [Array.getElem?_push, if_neg (by omega)]
theorem Grow.newVar (t : TypeId) (v : Value) : Grow (Go.newVar t v) := by
  unfold Go.newVar Go.newRow
  exact Grow.bind (Grow.newObj _) fun _ => (Clear.pure _).grow

/-- The kinds of operations that make a block and do nothing else. -/
def allocOp : Op → Bool
  | .alloc _ | .box .. | .buildSlice .. => true
  | _ => false
theorem allocOp_spec {P : Program} {ρ : Operand → Value} {o : Oper} (h : allocOp o.op = true) {w w' : World} {n : Next} (hr : (execOp ρ o).run P w = .ok n w') : Ext w w' ∧ ∃ v, n = .value v := by
  have lift : ∀ (s : Sem Value), Grow s → (do Pure.pure (.value (← s)) : Sem Next).run P w = .ok n w' → Ext w w' ∧ ∃ v, n = .value v := fun s hs hr => by
    refine ⟨Grow.bind hs (fun _ => (Clear.pure _).grow) P w n w' hr, ?_⟩
    rw [Sem.run_bind] at hr
    cases h1 : s.run P w with
    | halt x w1 => rw [h1] at hr; simp [Result.andThen] at hr
    | ok a w1 => rw [h1] at hr; simp [Result.andThen] at hr; exact ⟨a, hr.1.symm⟩
  cases ho : o.op <;> rw [ho] at h <;> simp [allocOp] at h
  case alloc t =>
    have e : execOp ρ o = (do Pure.pure (.value (← Instr.alloc t true (.tuple #[])))) := by unfold execOp; rw [ho]
    rw [e] at hr
    refine lift _ ?_ hr
    unfold Instr.alloc
    refine Grow.bind (Clear.zeroValue t).grow fun z => ?_
    exact Grow.bind (Grow.newVar _ _) fun _ => (Clear.pure _).grow
  case box t x =>
    have e : execOp ρ o = (do Pure.pure (.value (← Instr.box t (ρ x)))) := by unfold execOp; rw [ho]
    rw [e] at hr
    refine lift _ ?_ hr
    unfold Instr.box
    exact Grow.bind (Grow.newVar _ _) fun _ => (Clear.pure _).grow
  case buildSlice t k ps =>
    have e : execOp ρ o = (do Pure.pure (.value (← Instr.buildSlice t k (ps.map fun (i, x) => (i, ρ x))))) := by unfold execOp; rw [ho]
    rw [e] at hr
    refine lift _ ?_ hr
    unfold Instr.buildSlice
    refine Grow.bind (Clear.underlying t).grow fun d => ?_
    split
    · refine Grow.bind (Clear.sizeOf _).grow fun sz => ?_
      extract_lets jp jp2
      have hj : ∀ z, Grow (jp z) := by
        intro z
        dsimp only [jp]
        split
        · exact Grow.bind (by unfold Go.newRow; exact Grow.bind (Grow.newObj _) fun _ => (Clear.pure _).grow) fun _ => (Clear.pure _).grow
        · exact (Clear.halt _).grow
      have hj2 : ∀ u, Grow (jp2 u) := by
        intro u
        dsimp only [jp2]
        split
        · exact Grow.bind (Clear.pure _).grow hj
        · exact Grow.bind (Clear.zeroValue _).grow fun _ => Grow.bind (Clear.pure _).grow hj
      split
      · exact Grow.bind (Clear.halt _).grow hj2
      · exact hj2 ()
    · exact (Clear.halt _).grow

/-- The kinds of operations that, where they do not halt, hand on a value. -/
def valueOp : Op → Bool
  | .move _ | .assign _ | .pick .. | .build .. | .load .. | .binOp .. | .unOp .. | .convert .. | .slice .. | .fieldAddr .. | .field .. | .indexAddr .. | .index .. | .extract .. | .makeFunc .. => true
  | .call { callee := .builtin b, .. } => match b with | .len | .cap | .min | .max => true | _ => false
  | .nilCheck _ => true
  | _ => false

/-- Where it yields, it yields a value. -/
def Val (s : Sem Next) : Prop := ∀ (P : Program) w n w', s.run P w = .ok n w' → ∃ v, n = .value v
theorem Val.pure (u : Value) : Val (Pure.pure (.value u)) := fun P w n w' h => by
  simp at h
  exact ⟨u, h.1.symm⟩
theorem Val.halt (x : Halt) : Val (Sem.halt x) := fun P w n w' h => by simp [Sem.run] at h
theorem Val.bind {α : Type} {e : Sem α} {f : α → Sem Next} (hf : ∀ a, Val (f a)) : Val (e >>= f) := fun P w n w' h => by
  rw [Sem.run_bind] at h
  cases hr : e.run P w with
  | halt x w1 => rw [hr] at h; simp [Result.andThen] at h
  | ok a w1 =>
    rw [hr] at h
    exact hf a P _ _ _ h
theorem Val.panic (x : RuntimeError) : Val (runtimePanic x) := by
  unfold runtimePanic
  refine Val.bind fun p => ?_
  cases x <;> first | exact Val.halt _ | exact Val.bind fun _ => Val.bind fun _ => Val.halt _

theorem valueOp_spec {P : Program} {ρ : Operand → Value} {o : Oper} (h : valueOp o.op = true) {w w' : World} {n : Next} (hr : (execOp ρ o).run P w = .ok n w') : ∃ v, n = .value v := by
  suffices hv : Val (execOp ρ o) from hv P w n w' hr
  clear hr
  unfold execOp
  cases ho : o.op <;> rw [ho] at h <;> simp [valueOp] at h
  case call c =>
    obtain ⟨callee, args, ats⟩ := c
    cases callee with
    | value f => simp at h
    | invoke r m => simp at h
    | builtin b =>
      intro P w n w' hr
      rw [Sem.run_bind] at hr
      simp only [resolve, Sem.run_pure, Result.andThen_ok, invoke, builtin] at hr
      cases b <;> simp at h <;> exact (Val.bind fun _ => Val.pure _) P _ _ _ hr
  case nilCheck x =>
    dsimp only
    split
    · exact Val.panic _
    · exact Val.panic _
    · exact Val.panic _
    · split
      · exact Val.panic _
      · refine Val.bind fun p => Val.bind fun b => ?_
        extract_lets
        split
        · exact Val.bind fun _ => Val.pure _
        · exact Val.pure _
      · exact Val.pure _
    · exact Val.pure _
  all_goals first
    | exact Val.pure _
    | exact Val.bind fun _ => Val.pure _

section
variable {P : Program} {ops : Array Oper} {Q : Exit → Act → World → Prop} {md : Region.Mode}

/-- Does operation j wait for operation i, straight or through others? -/
def waitsT (md : Region.Mode) (ops : Array Oper) : Nat → Nat → Nat → Bool
  | 0, _, _ => false
  | f + 1, j, i => match ops[j]? with
    | some oj => oj.after.any fun e => Region.binds md e && (e.on == i || waitsT md ops f e.on i)
    | none => false

/-- Whatever is listed, all that it waits for is listed. -/
def Closed (md : Region.Mode) (ops : Array Oper) (listed : Array Bool) : Prop :=
  ∀ (j : Nat) oj, ops[j]? = some oj → listed.getD j false = true → ∀ e ∈ oj.after, Region.binds md e = true → listed.getD e.on false = true

theorem Closed.start (md : Region.Mode) (ops : Array Oper) (n : Nat) : Closed md ops (Array.replicate n false) := fun j oj _ h => by
  rw [getD_replicate_false] at h
  cases h
theorem Closed.set_ {listed : Array Bool} {i : Nat} (h : Closed md ops listed) (hi : i ∈ Region.ready md ops listed) : Closed md ops (listed.setIfInBounds i true) := by
  obtain ⟨_, oi, hoi, hall⟩ := mem_ready.1 hi
  intro j oj hj hl e he hb
  by_cases hij : i = j
  · subst hij
    have : oj = oi := Option.some.inj (hj.symm.trans hoi)
    subst this
    exact getD_set_true (hall e he hb)
  · rw [getD_set_ne false hij] at hl
    exact getD_set_true (h j oj hj hl e he hb)
theorem Closed.waits {listed : Array Bool} (h : Closed md ops listed) : ∀ (f j i : Nat), waitsT md ops f j i = true → listed.getD j false = true → listed.getD i false = true
  | 0, _, _, hw, _ => by cases hw
  | f + 1, j, i, hw, hl => by
    unfold waitsT at hw
    split at hw
    · rename_i oj hoj
      obtain ⟨e, he, hb⟩ := Array.any_eq_true'.1 hw
      simp only [Bool.and_eq_true, Bool.or_eq_true, beq_iff_eq] at hb
      have h1 := h j oj hoj hl e he hb.1
      rcases hb.2 with h2 | h2
      · rw [← h2]; exact h1
      · exact Closed.waits h f _ _ h2 h1
    · cases hw
theorem Closed.ready {listed : Array Bool} (h : Closed md ops listed) {f j i : Nat} (hw : waitsT md ops f j i = true) (hj : j ∈ Region.ready md ops listed) : listed.getD i false = true := by
  obtain ⟨_, oj, hoj, hall⟩ := mem_ready.1 hj
  cases f with
  | zero => cases hw
  | succ f =>
    unfold waitsT at hw
    rw [hoj] at hw
    obtain ⟨e, he, hb⟩ := Array.any_eq_true'.1 hw
    simp only [Bool.and_eq_true, Bool.or_eq_true, beq_iff_eq] at hb
    have h1 := hall e he hb.1
    rcases hb.2 with h2 | h2
    · rw [← h2]; exact h1
    · exact h.waits f _ _ h2 h1

/-- Whatever order is picked from here on; an operation of class 0 leaves the world as it is, one of class 1 only makes blocks. -/
def wpAnyP (P : Program) (md : Region.Mode) (ops : Array Oper) (Q : Exit → Act → World → Prop) (cls : Nat → Nat) : Nat → Array Bool → Act → World → Prop
  | 0, listed, a, w => Region.ready md ops listed = [] ∧ Q .normal a w
  | fuel + 1, listed, a, w =>
    (Region.ready md ops listed = [] → Q .normal a w) ∧
    ∀ i ∈ Region.ready md ops listed, wpOp P ops Q i (fun a' w' => ((cls i = 0 → w' = w) ∧ (cls i = 1 → Ext w w')) ∧ wpAnyP P md ops Q cls fuel (listed.setIfInBounds i true) a' w') a w

theorem wpAny_of_P {cls : Nat → Nat} : ∀ (fuel : Nat) (listed : Array Bool) (a : Act) (w : World), wpAnyP P md ops Q cls fuel listed a w → wpAny P md ops Q fuel listed a w
  | 0, _, _, _, h => h
  | fuel + 1, _, _, _, h => ⟨h.1, fun i hi => wpOp_mono (fun a' w' h' => wpAny_of_P fuel _ a' w' h'.2) (h.2 i hi)⟩

/-- An operation that yields in every world that meets S may be taken first, if what comes up ahead of it keeps S. -/
theorem wpAnyP_first {cls : Nat → Nat} {S : World → Prop} {i : Nat} {oi : Oper} {v : Value} (hi : ops[i]? = some oi) (hsel : ∀ (j : Nat) (o : Oper) cs b, ops[j]? = some o → o.op ≠ .select cs b)
    (hQ : ∀ c a w, Q (.panic c) (a.put oi.dst v) w → Q (.panic c) a w)
    (hkeep : ∀ (listed : Array Bool) (j : Nat), Closed md ops listed → j ∈ Region.ready md ops listed → listed.getD i false = false → ∀ w w', S w → (cls j = 0 → w' = w) ∧ (cls j = 1 → Ext w w') → S w') :
    ∀ (fuel : Nat) (listed : Array Bool) (a : Act) (w : World), Closed md ops listed →
      (∀ j oj, ops[j]? = some oj → j ≠ i → listed.getD j true = false → (∀ e ∈ oj.after, Region.binds md e = true → e.on ≠ i) → oi.apart ops oj = true) →
      i ∈ Region.ready md ops listed → YieldsIf P ops S oi v a → S w →
      wpAnyP P md ops Q cls fuel (listed.setIfInBounds i true) (a.put oi.dst v) w → wpAnyP P md ops Q cls (fuel + 1) listed a w := by
  intro fuel
  induction fuel with
  | zero =>
    intro listed a w _ _ hr hy hS H
    refine ⟨fun h => (by rw [h] at hr; cases hr), fun j hj => ?_⟩
    by_cases hji : j = i
    · subst hji; exact hy.wpOp hi hS ⟨⟨fun _ => rfl, fun _ => Ext.refl _⟩, H⟩
    · have := ready_mono hj hji
      rw [H.1] at this
      cases this
  | succ fuel ih =>
    intro listed a w hcl hfree hr hy hS H
    refine ⟨fun h => (by rw [h] at hr; cases hr), fun j hj => ?_⟩
    by_cases hji : j = i
    · subst hji; exact hy.wpOp hi hS ⟨⟨fun _ => rfl, fun _ => Ext.refl _⟩, H⟩
    · have h1 := H.2 j (ready_mono hj hji)
      obtain ⟨hjun, oj, hoj, hall⟩ := mem_ready.1 hj
      have hiun : listed.getD i false = false := getD_both (mem_ready.1 hr).1
      have hnot : ∀ e ∈ oj.after, Region.binds md e = true → e.on ≠ i := fun e he hb heq => by
        have h1 := hall e he hb
        rw [heq, hiun] at h1
        cases h1
      have h2 := wpOp_putIf hoj (hfree j oj hoj hji hjun hnot) (fun cs b => hsel i oi cs b hi) (fun cs b => hsel j oj cs b hoj) hQ hy h1
      have hfree' : ∀ k ok, ops[k]? = some ok → k ≠ i → (listed.setIfInBounds j true).getD k true = false →
          (∀ e ∈ ok.after, Region.binds md e = true → e.on ≠ i) → oi.apart ops ok = true := fun k ok hk hki hun hno => by
        refine hfree k ok hk hki ?_ hno
        by_cases hjk : j = k
        · subst hjk; exact hjun
        · rw [getD_set_ne true hjk] at hun; exact hun
      refine wpOp_mono (fun a' w' h3 => ?_) h2
      obtain ⟨hy', hc, hP⟩ := h3
      refine ⟨hc, ih (listed.setIfInBounds j true) a' w' (hcl.set_ hj) hfree' (ready_mono hr (Ne.symm hji)) hy' (hkeep listed j hcl hj hiun w w' hS hc) ?_⟩
      rw [Array.setIfInBounds_comm _ _ hji]
      exact hP

/-- Nothing that asks for room. -/
def NoMark {α : Type} (e : Sem α) : Prop := ∀ (P : Program) w es, noRoomEvent ∈ (e.runT P w es).2 → noRoomEvent ∈ es
theorem NoMark.pure {α : Type} (a : α) : NoMark (Pure.pure a : Sem α) := fun P w es h => by
  have : (Pure.pure a : Sem α) = Sem.pure a := rfl
  rw [this] at h
  simpa only [Sem.runT] using h
theorem NoMark.halt {α : Type} (x : Halt) : NoMark (Sem.halt x : Sem α) := fun P w es h => by simpa only [Sem.runT] using h
theorem NoMark.program : NoMark Go.program := fun P w es h => by
  unfold Go.program at h
  simpa only [Sem.runT] using h
theorem NoMark.bind {α β : Type} {e : Sem α} {f : α → Sem β} (he : NoMark e) (hf : ∀ a, NoMark (f a)) : NoMark (e >>= f) := fun P w es h => by
  have : (e >>= f) = e.bind f := rfl
  rw [this, Sem.runT_bind'] at h
  have h1 := he P w es
  generalize e.runT P w es = r at h h1
  obtain ⟨r, es'⟩ := r
  cases r with
  | ok a w' => exact h1 (hf a P w' es' h)
  | halt x w' => exact h1 h
theorem NoMark.underlying (t : TypeId) : NoMark (Go.underlying t) := NoMark.bind NoMark.program fun p => by
  split
  · exact NoMark.pure _
  · exact NoMark.halt _

/-- The kinds of operations that neither look at the world nor may panic. -/
def calmOp : Op → Bool
  | .move _ | .assign _ | .pick .. | .extract .. => true
  | _ => false

theorem calm_worldless {P : Program} {o : Op} (h : calmOp o = true) : worldless P o = true := by
  cases o <;> simp_all [calmOp, worldless]
theorem calm_value {o : Op} (h : calmOp o = true) : valueOp o = true := by
  cases o <;> simp_all [calmOp, valueOp]

/-- They never panic, and ask for no room. -/
theorem calm_spec {P : Program} {ρ : Operand → Value} {o : Oper} (h : calmOp o.op = true) : (∀ w x w', (execOp ρ o).run P w ≠ .halt (.panic x) w') ∧ ∀ w, noRoomEvent ∉ ((execOp ρ o).runT P w #[]).2 := by
  have no : ∀ {e : Sem Next}, NoMark e → ∀ w, noRoomEvent ∉ (e.runT P w #[]).2 := fun h w hh => by have := h P w #[] hh; simp at this
  cases ho : o.op <;> rw [ho] at h <;> simp [calmOp] at h
  case move x =>
    have e : execOp ρ o = Pure.pure (.value (ρ x)) := by unfold execOp; rw [ho]
    rw [e]
    exact ⟨fun w x w' => by simp, no (NoMark.pure _)⟩
  case assign x =>
    have e : execOp ρ o = Pure.pure (.value (ρ x)) := by unfold execOp; rw [ho]
    rw [e]
    exact ⟨fun w x w' => by simp, no (NoMark.pure _)⟩
  case pick c a b =>
    have e : execOp ρ o = (do Pure.pure (.value (if ← asBool (ρ c) then ρ a else ρ b))) := by unfold execOp; rw [ho]
    rw [e]
    have hb : NoMark (asBool (ρ c)) := by
      unfold asBool
      split
      · exact NoMark.pure _
      · exact NoMark.halt _
    refine ⟨fun w x w' => ?_, no (NoMark.bind hb fun _ => NoMark.pure _)⟩
    rw [Sem.run_bind]
    unfold asBool
    split <;> simp [stuck, Result.andThen]
  case extract t i =>
    have e : execOp ρ o = (do Pure.pure (.value (← Instr.extract (ρ t) i))) := by unfold execOp; rw [ho]
    rw [e]
    have hb : NoMark (Instr.extract (ρ t) i) := by
      unfold Instr.extract
      split
      · split
        · exact NoMark.pure _
        · exact NoMark.halt _
      · exact NoMark.halt _
    refine ⟨fun w x w' => ?_, no (NoMark.bind hb fun _ => NoMark.pure _)⟩
    rw [Sem.run_bind]
    unfold Instr.extract
    split
    · split <;> simp [stuck, Result.andThen]
    · simp [stuck, Result.andThen]

/-- What the walk shows of a calm operation. -/
theorem yields_of_calm {t : Nat} {o : Oper} {a : Act} {w : World} {K : Act → World → Prop} (ho : ops[t]? = some o) (hc : calmOp o.op = true) (h : wpOp P ops Q t K a w) :
    ∃ v, YieldsIf P ops (fun _ => True) o v a ∧ K (a.put o.dst v) w := by
  unfold wpOp at h
  rw [ho] at h
  dsimp only at h
  by_cases hw : Region.wanted o (yielded ops a.tmps) = true
  · rw [if_pos hw] at h
    obtain ⟨hp, hm⟩ := calm_spec (P := P) (ρ := a.eval) hc
    rcases h with h | ⟨⟨h, _⟩, _⟩
    · unfold Oper.wp at h
      generalize hr : (execOp a.eval o).run P w = r at h
      cases r with
      | halt x w' => cases x <;> simp only [Oper.upon] at h; exact absurd hr (hp w _ w')
      | ok n w' =>
        obtain ⟨v, rfl⟩ := valueOp_spec (calm_value hc) hr
        have hall := worldless_spec (calm_worldless (P := P) hc) hr
        have hww : w' = w := by have := (hall w).symm.trans hr; injection this with _ e; exact e.symm
        subst hww
        exact ⟨v, .inl ⟨hw, fun u _ => hall u⟩, h⟩
    · exact absurd h (hm w)
  · rw [if_neg hw] at h
    exact ⟨undef, .inr ⟨by simpa using hw, rfl⟩, h⟩

/-- An operation that only makes a block: told beside what the walk shows. -/
theorem wpOp_alloc {t : Nat} {o : Oper} {a : Act} {w : World} {K : Act → World → Prop} (ho : ops[t]? = some o) (hc : allocOp o.op = true) (h : wpOp P ops Q t K a w) : wpOp P ops Q t (fun a' w' => Ext w w' ∧ K a' w') a w := by
  unfold wpOp at *
  rw [ho] at h ⊢
  dsimp only at *
  by_cases hw : Region.wanted o (yielded ops a.tmps) = true
  · rw [if_pos hw] at h ⊢
    refine h.imp (fun h => ?_) id
    unfold Oper.wp at *
    generalize hr : (execOp a.eval o).run P w = r at *
    cases r with
    | halt x w' => cases x <;> simp only [Oper.upon] at h ⊢ <;> exact h
    | ok n w' =>
      obtain ⟨he, v, rfl⟩ := allocOp_spec hc hr
      exact ⟨he, h⟩
  · rw [if_neg hw] at h ⊢
    exact ⟨Ext.refl _, h⟩

def classOf (ops : Array Oper) (ts : List Nat) (j : Nat) : Nat :=
  if ts.contains j then (match ops[j]? with | some o => if allocOp o.op then 1 else 2 | none => 2) else 0

def tailB (md : Region.Mode) (ops : Array Oper) : List Nat → Array Bool → Bool
  | [], listed => (Region.ready md ops listed).isEmpty
  | t :: ts, listed => (Region.ready md ops listed == [t] ||
      ((Region.ready md ops listed).contains t && Region.free md ops listed t && (match ops[t]? with | some o => calmOp o.op | none => false))) && tailB md ops ts (listed.setIfInBounds t true)

theorem wpAnyP_tail {us : List Nat} (hQ : ∀ c a (d : Option Tmp) v w, Q (.panic c) (a.put d v) w → Q (.panic c) a w) (hs : Region.noSelect ops = true) : ∀ (ts : List Nat) (listed : Array Bool) (a : Act) (w : World), Closed md ops listed → (∀ t ∈ ts, us.contains t = true) → tailB md ops ts listed = true →
    wpOps P ops Q ts a w → wpAnyP P md ops Q (classOf ops us) ts.length listed a w
  | [], _, _, _, _, _, hB, h => ⟨by simpa [tailB] using hB, h⟩
  | t :: ts, listed, a, w, hcl, hf, hB, h => by
    simp only [tailB, Bool.and_eq_true, Bool.or_eq_true, beq_iff_eq] at hB
    rw [wpOps_cons] at h
    have hc0 : classOf ops us t ≠ 0 := by
      unfold classOf
      rw [if_pos (hf t (by simp))]
      split
      · split <;> simp
      · simp
    have h1 : wpOp P ops Q t (fun a' w' => (classOf ops us t = 1 → Ext w w') ∧ wpOps P ops Q ts a' w') a w := by
      cases ho : ops[t]? with
      | none => unfold wpOp at *; rw [ho] at h ⊢; exact ⟨fun _ => Ext.refl _, h⟩
      | some o =>
        by_cases hal : allocOp o.op = true
        · exact wpOp_mono (fun a' w' h => ⟨fun _ => h.1, h.2⟩) (wpOp_alloc ho hal h)
        · refine wpOp_mono (fun a' w' h => ⟨fun h1 => ?_, h⟩) h
          unfold classOf at h1
          rw [if_pos (hf t (by simp)), ho] at h1
          simp [hal] at h1
    rcases hB.1 with hB1 | ⟨⟨hr, hfr⟩, hc⟩
    · refine ⟨fun h0 => (by rw [hB1] at h0; cases h0), fun i hi => ?_⟩
      have hi' := hi
      rw [hB1] at hi
      have : i = t := by simpa using hi
      subst this
      exact wpOp_mono (fun a' w' h' => ⟨⟨fun h0 => absurd h0 hc0, h'.1⟩, wpAnyP_tail hQ hs ts _ a' w' (hcl.set_ hi') (fun t ht => hf t (by simp [ht])) hB.2 h'.2⟩) h1
    · have hr' : t ∈ Region.ready md ops listed := by simpa using hr
      cases ho : ops[t]? with
      | none => rw [ho] at hc; cases hc
      | some o =>
        rw [ho] at hc
        obtain ⟨v, hy, hK⟩ := yields_of_calm ho hc h
        exact wpAnyP_first (S := fun _ => True) ho (Region.noSelect_spec hs) (fun c a w => hQ c a _ _ w) (fun _ _ _ _ _ _ _ _ _ => trivial) _ listed a w hcl (Region.free_spec ho hfr) hr' hy trivial
          (wpAnyP_tail hQ hs ts _ _ w (hcl.set_ hr') (fun t ht => hf t (by simp [ht])) hB.2 hK)

def loadOp : Op → Bool
  | .load .. => true
  | _ => false

def earlyB (P : Program) (md : Region.Mode) (ops : Array Oper) (ts : List Nat) : List Nat → Array Bool → Bool
  | [], listed => tailB md ops ts listed
  | i :: es, listed => (Region.ready md ops listed).contains i && Region.free md ops listed i && !ts.contains i &&
      (match ops[i]? with
        | some o => valueOp o.op && (worldless P o.op || (ts.all fun j => waitsT md ops ops.size j i || (loadOp o.op && (match ops[j]? with | some oj => allocOp oj.op | none => false))))
        | none => false) &&
      earlyB P md ops ts es (listed.setIfInBounds i true)

/-- What the walk of the early operations shows of one of them. -/
theorem yieldsIf_of_still {o : Oper} {a : Act} {K : Act → Prop} {w : World} (hv : valueOp o.op = true)
    (h : if Region.wanted o (yielded ops a.tmps) then o.still P a w K else K (a.put o.dst undef)) :
    ∃ v, YieldsIf P ops (fun u => u = w) o v a ∧ (worldless P o.op = true → YieldsIf P ops (fun _ => True) o v a) ∧ (loadOp o.op = true → YieldsIf P ops (fun u => Ext w u) o v a) ∧ K (a.put o.dst v) := by
  by_cases hw : Region.wanted o (yielded ops a.tmps) = true
  · rw [if_pos hw] at h
    unfold Oper.still at h
    generalize hr : (execOp a.eval o).run P w = r at h
    cases r with
    | halt x w' => simp only [Oper.stillUpon] at h
    | ok n w' =>
      obtain ⟨v, rfl⟩ := valueOp_spec hv hr
      simp only [Oper.stillUpon] at h
      obtain ⟨rfl, hK⟩ := h
      refine ⟨v, .inl ⟨hw, fun u hu => by rw [hu]; exact hr⟩, fun hl => .inl ⟨hw, fun u _ => worldless_spec hl hr u⟩, fun hl => .inl ⟨hw, fun u hu => ?_⟩, hK⟩
      cases ho : o.op <;> rw [ho] at hl <;> simp [loadOp] at hl
      case load t x =>
        have e : execOp a.eval o = (do Pure.pure (.value (← Instr.loadAt t (a.eval x)))) := by unfold execOp; rw [ho]
        rw [e] at hr ⊢
        exact (Stb.bind (Stb.loadAt _ _) (fun _ => (Clear.pure _).stb) P _ _ _ hr).2 u hu
  · rw [if_neg hw] at h
    exact ⟨undef, .inr ⟨by simpa using hw, rfl⟩, fun _ => .inr ⟨by simpa using hw, rfl⟩, fun _ => .inr ⟨by simpa using hw, rfl⟩, h⟩

theorem wpAnyP_early {w : World} (hQ : ∀ c a (d : Option Tmp) v w, Q (.panic c) (a.put d v) w → Q (.panic c) a w) (hs : Region.noSelect ops = true) (ts : List Nat) : ∀ (es : List Nat) (listed : Array Bool) (a : Act), Closed md ops listed →
    earlyB P md ops ts es listed = true → wpStill P ops w (fun a' => wpOps P ops Q ts a' w) (es.filterMap (ops[·]?)) a → wpAnyP P md ops Q (classOf ops ts) (es.length + ts.length) listed a w
  | [], listed, a, hcl, hB, h => by
    simp only [List.length_nil, Nat.zero_add]
    exact wpAnyP_tail hQ hs ts listed a w hcl (fun t ht => by simpa using ht) hB h
  | i :: es, listed, a, hcl, hB, h => by
    simp only [earlyB, Bool.and_eq_true] at hB
    obtain ⟨⟨⟨⟨hr, hf⟩, hnt⟩, hk⟩, hrest⟩ := hB
    have hr' : i ∈ Region.ready md ops listed := by simpa using hr
    cases ho : ops[i]? with
    | none => rw [ho] at hk; cases hk
    | some o =>
      rw [ho] at hk
      simp only [Bool.and_eq_true, Bool.or_eq_true] at hk
      rw [List.filterMap_cons_some ho] at h
      obtain ⟨v, hy, hy0, hyl, hK⟩ := yieldsIf_of_still (K := wpStill P ops w (fun a' => wpOps P ops Q ts a' w) (es.filterMap (ops[·]?))) hk.1 h
      have IH := wpAnyP_early hQ hs ts es (listed.setIfInBounds i true) _ (hcl.set_ hr') hrest hK
      rw [List.length_cons, show es.length + 1 + ts.length = (es.length + ts.length) + 1 by omega]
      rcases hk.2 with hl | hl
      · exact wpAnyP_first (S := fun _ => True) ho (Region.noSelect_spec hs) (fun c a w => hQ c a _ _ w) (fun _ _ _ _ _ _ _ _ _ => trivial) _ listed a w hcl (Region.free_spec ho hf) hr' (hy0 hl) trivial IH
      · by_cases hld : loadOp o.op = true
        · refine wpAnyP_first (S := fun u => Ext w u) ho (Region.noSelect_spec hs) (fun c a w => hQ c a _ _ w) (fun listed' j hcl' hj hun u u' hu hc => ?_) _ listed a w hcl (Region.free_spec ho hf) hr' (hyl hld) (Ext.refl _) IH
          cases hfj : ts.contains j with
          | false =>
            have : classOf ops ts j = 0 := by unfold classOf; rw [if_neg (by rw [hfj]; simp)]
            rw [hc.1 this]
            exact hu
          | true =>
            have hwj := List.all_eq_true.1 hl j (by simpa using hfj)
            simp only [Bool.or_eq_true, Bool.and_eq_true] at hwj
            rcases hwj with hwj | ⟨_, hwj⟩
            · rw [hcl'.ready hwj hj] at hun
              cases hun
            · cases hoj : ops[j]? with
              | none => rw [hoj] at hwj; cases hwj
              | some oj =>
                rw [hoj] at hwj
                have : classOf ops ts j = 1 := by unfold classOf; rw [if_pos hfj, hoj]; simp [hwj]
                exact hu.trans (hc.2 this)
        · refine wpAnyP_first (S := fun u => u = w) ho (Region.noSelect_spec hs) (fun c a w => hQ c a _ _ w) (fun listed' j hcl' hj hun u u' hu hc => ?_) _ listed a w hcl (Region.free_spec ho hf) hr' hy rfl IH
          cases hfj : ts.contains j with
          | false =>
            have : classOf ops ts j = 0 := by unfold classOf; rw [if_neg (by rw [hfj]; simp)]
            rw [hc.1 this]
            exact hu
          | true =>
            have hwj := List.all_eq_true.1 hl j (by simpa using hfj)
            simp only [Bool.or_eq_true, Bool.and_eq_true] at hwj
            rcases hwj with hwj | ⟨h2, _⟩
            · rw [hcl'.ready hwj hj] at hun
              cases hun
            · exact absurd h2 hld

/-- The whole check of a plan. -/
def planB (P : Program) (ops : Array Oper) (es ts : List Nat) : Bool :=
  Region.noSelect ops && (es.length + ts.length == ops.size) && earlyB P .any ops ts es (Array.replicate ops.size false)

theorem wpOps_of_list (ts : List Nat) : ∀ (a : Act) (w : World), wpList P ops Q (ts.filterMap (ops[·]?)) a w → wpOps P ops Q ts a w := by
  induction ts with
  | nil => intro a w h; exact h
  | cons t ts ih =>
    intro a w h
    rw [wpOps_cons]
    unfold wpOp
    cases ho : ops[t]? with
    | none =>
      rw [List.filterMap_cons_none ho] at h
      exact ih a w h
    | some o =>
      rw [List.filterMap_cons_some ho] at h
      unfold wpList at h
      dsimp only
      split at h
      · rename_i hw
        rw [if_pos hw]
        exact h.imp (Oper.wp_mono fun a w => ih a w) id
      · rename_i hw
        rw [if_neg hw]
        exact ih _ _ h

theorem wpStill_mono {w : World} {K K' : Act → Prop} (hk : ∀ a, K a → K' a) : ∀ (os : List Oper) (a : Act), wpStill P ops w K os a → wpStill P ops w K' os a
  | [], a, h => hk a h
  | o :: os, a, h => by
    unfold wpStill at h ⊢
    by_cases hw : Region.wanted o (yielded ops a.tmps) = true
    · rw [if_pos hw] at h ⊢; exact Oper.still_mono (fun a h => wpStill_mono hk os a h) h
    · rw [if_neg hw] at h ⊢; exact wpStill_mono hk os _ h

/-- A REGION THAT DRAWS ITS ORDER, BY A PLAN: the operations es are walked first (they only look), then the row ts. -/
theorem wp_region_plan {id : Nat} {a : Act} {w : World} {l : List Oper} (es ts : List Nat) (hm : P.follows .mixedOrders = true) (hB : planB P l.toArray es ts = true)
    (hQ : ∀ c a (d : Option Tmp) v w, Q (.panic c) (a.put d v) w → Q (.panic c) a w)
    (h : wpStill P l.toArray w.drew (fun a' => wpList P l.toArray Q (ts.filterMap (l[·]?)) a' w.drew) (es.filterMap (l[·]?)) a) : (Code.region id l.toArray true).wp P Q a w := by
  simp only [planB, Bool.and_eq_true, beq_iff_eq] at hB
  obtain ⟨⟨hs, hn⟩, hE⟩ := hB
  refine wp_region_any hm (wpAny_of_P (cls := classOf l.toArray ts) _ _ _ _ ?_)
  rw [← hn]
  refine wpAnyP_early (w := w.drew) hQ hs ts es _ a (Closed.start _ _ _) (by rw [hn]; exact hE) ?_
  have e1 : (fun (i : Nat) => l.toArray[i]?) = fun (i : Nat) => l[i]? := by funext i; simp
  rw [e1]
  refine wpStill_mono (fun a' h => wpOps_of_list ts a' _ ?_) _ _ h
  rw [e1]
  exact h
end
end Go.Inq

namespace Go.Proofs.YtfodlklpfffaaaaGreatDoor
open Go.RowKit Go.Inq
set_option maxHeartbeats 4000000
attribute [local go_sem ↓] Go.wp_at_zero Go.wp_at_succ

theorem writes08_any (ts : Int) (A : Option Addr) (c : Nat) (l : List Int) (vr : Value) (x : Int) (K : Nat → Prop) (w : World) (h : IntS w K (.slice A l.length c) l) (hK : ∀ b, K b → b < w.heap.size) (hn : l.length ≤ maxLen) :
    Calls Tryz.prog 104 #[.agg #[.int .i64 ts, .slice A l.length c, vr], .int .i64 x] w fun e w' => e = .returned (.bool (l.contains x)) ∧ Below w.heap.size w w' := by
  unfold maxLen at hn
  have hA : Below w.heap.size w (w.alloc (.cells #[.int .i64 ts, .slice A l.length c, vr] 57)) := (Below.refl _ _).alloc (Nat.le_refl _) _
  have kt : Blk (w.alloc (.cells #[.int .i64 ts, .slice A l.length c, vr] 57)) w.heap.size 57 #[.int .i64 ts, .slice A l.length c, vr] := Blk.new _ _ _
  have h1 := IntS.keep h (Agree.below hA hK) (fun b h => h)
  have y0 := kt.cell 1
  simp only [List.getElem?_toArray, List.getElem?_cons_zero, List.getElem?_cons_succ] at y0
  have hno : (∀ j (hj : j < l.length), l[j] ≠ x) → l.contains x = false := fun g => by
    rw [← Bool.not_eq_true, List.contains_iff_mem]
    intro hm
    obtain ⟨j, hj, e⟩ := List.getElem_of_mem hm
    exact g j hj e
  have hyes : ∀ j (hj : j < l.length), x = l[j] → l.contains x = true := fun j hj e => by
    rw [List.contains_iff_mem, e]; exact List.getElem_mem hj
  generalize l.contains x = cb at *
  replace hno := hide hno
  replace hyes := hide hyes
  go_enter Tryz.func104, Tryz.ntmps104
  go_wp2_with fail
  generalize w.alloc (.cells #[.int .i64 ts, .slice A l.length c, vr] 57) = W at *
  go_loop [5] (fun s5 => ∃ k : Nat, k ≤ l.length ∧ s5 = .int .i64 k ∧ Hid (∀ j (hj : j < l.length), j < k → l[j] ≠ x)) (fun s5 => l.length - (intOf s5).toNat)
  case atStart => exact ⟨0, Nat.zero_le _, by go_num, fun j hj h => absurd h (by omega)⟩
  case round =>
    obtain ⟨k, hk, rfl, hall⟩ := hrel
    have hk1 : (0 : Int) ≤ (k : Int) := Int.natCast_nonneg _
    by_cases hlt : k < l.length
    · have hi2 : (k : Int) < (l.length : Int) := by omega
      obtain ⟨b, off, rfl, _, hc⟩ := h1.at_ hlt
      have hh := hide (fun g => hyes.out k hlt g)
      have hst : Hid (l[k] ≠ x → ∀ j (hj : j < l.length), j < k + 1 → l[j] ≠ x) := fun g j hj hjk => by
        by_cases e : j = k
        · subst e; exact g
        · exact hall.out j hj (by omega)
      clear hall
      by_cases he : x = l[k]
      · have hb : (l[k] == x) = true := by simpa using he.symm
        have hr := hide (hh.out he)
        clear he hh hst
        go_wp2
        go_ret
        exact ⟨by rw [hr.out]; rfl, hA⟩
      · have hb : (l[k] == x) = false := by simpa using fun e => he e.symm
        have hn2 := hide (hst.out (fun e => he e.symm))
        clear he hh hst
        go_wp2
        go_round
        case rel => exact ⟨k + 1, by omega, by go_num, hn2⟩
        case measure => simp [intOf]; omega
    · have hr := hide (hno.out fun j hj => hall.out j hj (by omega))
      go_wp2
      go_ret
      exact ⟨by rw [hr.out]; rfl, hA⟩

theorem txF_no_w {H : List Txn} {n : Nat} (h : n < H.length) {j : Nat} (hj : j < H[n].writes.length) (hb : wF H[n].writes j = false) : (txF H n).all id = false := by
  rw [txF_at h]
  refine pre_false (List.prefix_refl _) (List.mem_append.2 (.inl (List.mem_append.2 (.inl ?_))))
  unfold wFs
  exact List.mem_map.2 ⟨j, by simpa using hj, hb⟩
theorem txF_no_r {H : List Txn} {n : Nat} (h : n < H.length) {j : Nat} (hj : j < H[n].reads.length) (hb : rF H n H[n].reads j = false) : (txF H n).all id = false := by
  rw [txF_at h]
  refine pre_false (List.prefix_refl _) (List.mem_append.2 (.inl (List.mem_append.2 (.inr ?_))))
  unfold rFs
  exact List.mem_map.2 ⟨j, by simpa using hj, hb⟩
theorem txF_no_s {H : List Txn} {n : Nat} (h : n < H.length) (hb : belowB H[n].sess 8 = false) : (txF H n).all id = false := by
  rw [txF_at h]
  exact pre_false (List.prefix_refl _) (List.mem_append.2 (.inr (by simp [hb])))
theorem txF_yes {H : List Txn} {n : Nat} (h : n < H.length) (hs : belowB H[n].sess 8 = true) (hw : ∀ j, j < H[n].writes.length → wF H[n].writes j = true) (hr : ∀ j, j < H[n].reads.length → rF H n H[n].reads j = true) : (txF H n).all id = true := by
  rw [txF_at h, List.all_append, List.all_append]
  have h1 : (wFs H[n].writes H[n].writes.length).all id = true := by
    rw [List.all_eq_true]
    intro b hb
    unfold wFs at hb
    obtain ⟨j, hj, rfl⟩ := List.mem_map.1 hb
    exact hw j (by simpa using hj)
  have h2 : (rFs H n H[n].reads H[n].reads.length).all id = true := by
    rw [List.all_eq_true]
    intro b hb
    unfold rFs at hb
    obtain ⟨j, hj, rfl⟩ := List.mem_map.1 hb
    exact hr j (by simpa using hj)
  rw [h1, h2]
  simp [hs]
/-- A key behind good ones: good just if it is a key, and greater than the one ahead. -/
theorem wF_first {l : List Int} (h : 0 < l.length) : wF l 0 = (decide (0 ≤ l[0]) && decide (l[0] < 16)) := by
  rw [wF_at h, show l.take 0 = [] from rfl, lastK_nil]
  congr 1
theorem wF_next {l : List Int} {m : Nat} (h : m + 1 < l.length) : wF l (m + 1) = (decide (l[m] < l[m + 1]) && decide (l[m + 1] < 16)) := by
  rw [wF_at h, List.take_succ_eq_append_getElem (by omega), lastK_snoc]
theorem wF_pos {l : List Int} : ∀ {m : Nat} (h : m < l.length), (∀ j, j ≤ m → wF l j = true) → 0 ≤ l[m]
  | 0, h, hall => by
    have := hall 0 (Nat.le_refl _)
    rw [wF_first h, Bool.and_eq_true, decide_eq_true_eq] at this
    exact this.1
  | m + 1, h, hall => by
    have ih := wF_pos (m := m) (by omega) fun j hj => hall j (by omega)
    have := hall (m + 1) (Nat.le_refl _)
    rw [wF_next h, Bool.and_eq_true, decide_eq_true_eq] at this
    omega
theorem rF_key {H : List Txn} {n : Nat} {l : List It} {j : Nat} (h : j < l.length) : rF H n l j = (wF (l.map (·.a)) j && thereB H n l[j]) := by
  rw [rF_at h, wF_at (by rw [List.length_map]; exact h), List.getElem_map, List.map_take]
theorem wF_is {l : List Int} {i : Nat} (h : i < l.length) (hall : ∀ j, j < i → wF l j = true) : wF l i = true ↔ 0 ≤ l[i] ∧ l[i] < 16 ∧ ∀ m (hm : m + 1 = i), l[m]'(by omega) < l[i] := by
  cases i with
  | zero =>
    rw [wF_first h, Bool.and_eq_true, decide_eq_true_eq, decide_eq_true_eq]
    exact ⟨fun g => ⟨g.1, g.2, fun m hm => by omega⟩, fun g => ⟨g.1, g.2.1⟩⟩
  | succ m =>
    have hp := wF_pos (m := m) (by omega) fun j hj => hall j (by omega)
    rw [wF_next h, Bool.and_eq_true, decide_eq_true_eq, decide_eq_true_eq]
    refine ⟨fun g => ⟨by omega, g.2, fun m' hm => ?_⟩, fun g => ⟨g.2.2 m rfl, g.2.1⟩⟩
    obtain rfl : m' = m := by omega
    exact g.1
theorem belowN {B : Nat} {w W : World} (h : Below B w W) (n : Nat) : Below B w (W.drewN n) := h.trans ⟨rfl, rfl, rfl, Nat.le_refl _, fun _ _ => rfl⟩
set_option maxHeartbeats 16000000 in
set_option maxRecDepth 100000 in
theorem one08_any (A : Option Addr) (c : Nat) (H : List Txn) (n : Nat) (w : World) (h : TxnS w (Old w) (.slice A H.length c) H) (hn : n < H.length) (hs : SmallH H) :
    Calls Tryz.prog 72 #[.agg #[.slice A H.length c], .int .i64 n] w fun e w' => e = .returned (.bool ((txF H n).all id)) ∧ Below w.heap.size w w' := by
  have hH := hs.1
  obtain ⟨hsw, hsr⟩ := hs.2 _ (List.getElem_mem hn)
  have hAll := hide (fun m hm => (hs.2 _ (List.getElem_mem (l := H) (n := m) hm)).1)
  have hnw := hide (fun j hj hb => txF_no_w hn (j := j) hj hb)
  have hnr := hide (fun j hj hb => txF_no_r hn (j := j) hj hb)
  have hns := hide (fun hb => txF_no_s hn hb)
  have hyes := hide (fun a b c => txF_yes hn a b c)
  obtain ⟨b, off, Aw, cw, Ar, cr, rfl, hbK, d0, d1, d2, hws, hrs⟩ := TxnS.at_ h hn
  generalize ht : H[n] = t at *
  replace ht := hide ht
  obtain ⟨ts, ws, rs⟩ := t
  dsimp only at *
  have hW1 : Below w.heap.size w (w.alloc (.cells #[.slice (some ⟨b, off, none⟩) H.length c] 24)) := (Below.refl _ _).alloc (Nat.le_refl _) _
  have kH : Blk (w.alloc (.cells #[.slice (some ⟨b, off, none⟩) H.length c] 24)) w.heap.size 24 #[.slice (some ⟨b, off, none⟩) H.length c] := Blk.new _ _ _
  have e0 := (hW1.cell (p := ⟨b, off + n * 3, none⟩) hbK).trans d0
  have e1 := (hW1.cell (p := ⟨b, off + n * 3 + 1, none⟩) hbK).trans d1
  have e2 := (hW1.cell (p := ⟨b, off + n * 3 + 2, none⟩) hbK).trans d2
  have z0 := kH.cell 0
  simp only [List.getElem?_toArray, List.getElem?_cons_zero] at z0
  have hB2 := hW1.alloc hW1.size (.cells #[.int .i64 ts, .slice Aw ws.length cw, .slice Ar rs.length cr] 57)
  have kT : Blk ((w.alloc (.cells #[.slice (some ⟨b, off, none⟩) H.length c] 24)).alloc (.cells #[.int .i64 ts, .slice Aw ws.length cw, .slice Ar rs.length cr] 57)) (w.heap.size + 1) 57 #[.int .i64 ts, .slice Aw ws.length cw, .slice Ar rs.length cr] := by
    have := Blk.new (w.alloc (.cells #[.slice (some ⟨b, off, none⟩) H.length c] 24)) 57 #[.int .i64 ts, .slice Aw ws.length cw, .slice Ar rs.length cr]
    simp only [World.size_alloc] at this
    exact this
  have kH2 := kH.alloc (.cells #[.int .i64 ts, .slice Aw ws.length cw, .slice Ar rs.length cr] 57)
  have hn1 : (0 : Int) ≤ (n : Int) := Int.natCast_nonneg _
  have hn2 : (n : Int) < (H.length : Int) := by omega
  have t0 := kT.cell 0
  simp only [List.getElem?_toArray, List.getElem?_cons_zero] at t0
  by_cases g0 : ts < 0
  · have g0b : decide (ts < 0) = true := by simpa using g0
    have hno := hide (hns.out (by simp [belowB]; omega))
    go_enter Tryz.func72, Tryz.ntmps72
    go_wp2
    go_ret
    exact ⟨by rw [hno.out]; rfl, hB2⟩
  have g0b : decide (ts < 0) = false := by simpa using g0
  by_cases g1 : 7 < ts
  · have g1b : decide (ts > 7) = true := by simpa using g1
    have hno := hide (hns.out (by simp [belowB]; omega))
    go_enter Tryz.func72, Tryz.ntmps72
    go_wp2
    go_ret
    exact ⟨by rw [hno.out]; rfl, hB2⟩
  have g1b : decide (ts > 7) = false := by simpa using g1
  have hyes2 := hide (hyes.out (by simp [belowB]; omega))
  clear hyes hns
  go_enter Tryz.func72, Tryz.ntmps72
  go_wp2_with fail
  clear d0 d1 d2 e0 e1 e2 z0 t0 g0b g1b kH hW1
  generalize (w.alloc (.cells #[.slice (some ⟨b, off, none⟩) H.length c] 24)).alloc (.cells #[.int .i64 ts, .slice Aw ws.length cw, .slice Ar rs.length cr] 57) = W2 at *
  go_loopw [6] (fun s6 wr => ∃ i : Nat, i ≤ ws.length ∧ s6 = .int .i64 i ∧ Hid (∀ j, j < i → wF ws j = true) ∧ Below w.heap.size w wr ∧ Blk wr (w.heap.size + 1) 57 #[.int .i64 ts, .slice Aw ws.length cw, .slice Ar rs.length cr] ∧ Blk wr w.heap.size 24 #[.slice (some ⟨b, off, none⟩) H.length c]) (fun s6 _ => ws.length - (intOf s6).toNat)
  case atStart => exact ⟨0, Nat.zero_le _, by go_num, fun j h => absurd h (by omega), hB2, kT, kH2⟩
  case round =>
    clear hB2 kT kH2
    obtain ⟨i, hi, rfl, hall, hb, kT, kH⟩ := hrel
    have hi1 : (0 : Int) ≤ (i : Int) := Int.natCast_nonneg _
    have e1 := kT.cell 1
    simp only [List.getElem?_toArray, List.getElem?_cons_zero, List.getElem?_cons_succ] at e1
    by_cases hlt : i < ws.length
    · have hi2 : (i : Int) < (ws.length : Int) := by omega
      have hW := IntS.keep hws (Agree.below hb fun b h => h) (fun b h => h)
      have hcm := hide (fun m (hm : m < ws.length) => IntS.at_ hW hm)
      obtain ⟨bw, ow, rfl, hbw, ec⟩ := IntS.at_ hW hlt
      have hwf := wF_is hlt hall.out
      have hbad := hide (fun g => hnw.out i hlt g)
      have hgo : Hid (wF ws i = true → ∀ j, j < i + 1 → wF ws j = true) := fun g j hj => by
        by_cases e : j = i
        · subst e; exact g
        · exact hall.out j (by omega)
      by_cases k1 : ws[i] < 0
      · have k1b : decide (ws[i] < 0) = true := by simpa using k1
        replace hwf := hide hwf
        have hno := hide (hbad.out (by rw [← Bool.not_eq_true, hwf.out]; intro g; have := g.1; omega))
        clear hbad hwf hgo
        go_wp2_with fail
        go_quiet (fail)
        go_wp2
        go_ret
        exact ⟨by rw [hno.out]; rfl, belowN hb nq⟩
      · have k1b : decide (ws[i] < 0) = false := by simpa using k1
        by_cases k2 : 15 < ws[i]
        · have k2b : decide (ws[i] > 15) = true := by simpa using k2
          replace hwf := hide hwf
          have hno := hide (hbad.out (by rw [← Bool.not_eq_true, hwf.out]; intro g; have := g.2.1; omega))
          clear hbad hwf hgo
          go_wp2_with fail
          go_quiet (fail)
          go_wp2
          go_ret
          exact ⟨by rw [hno.out]; rfl, belowN hb nq⟩
        · have k2b : decide (ws[i] > 15) = false := by simpa using k2
          by_cases hi0 : i = 0
          · have k3b : decide ((i : Int) > 0) = false := by simp; omega
            have k3c : decide (0 < i) = false := by simp; omega
            replace hwf := hide hwf
            replace hi0 := hide hi0
            have hgo2 := hide (hgo.out (hwf.out.2 ⟨by omega, by omega, fun m hm => by have := hi0.out; omega⟩))
            clear hbad hwf hgo
            go_wp2_with fail
            go_quiet (fail)
            go_wp2
            go_roundw
            case rel => exact ⟨i + 1, by omega, by go_num, hgo2, belowN hb nq, kT, kH⟩
            case measure => simp [intOf]; omega
          · obtain ⟨m, hm⟩ : ∃ m, m + 1 = i := ⟨i - 1, by omega⟩
            have k3b : decide ((i : Int) > 0) = true := by simp; omega
            have k3c : decide (0 < i) = true := by simp; omega
            have k3d : 0 < i := by omega
            have hq : IntKind.i64.wrap ((i : Int) - 1) = (m : Int) := by rw [IntKind.wrap_i64]; omega
            have hm1 : (0 : Int) ≤ (m : Int) := Int.natCast_nonneg _
            have hm2 : (m : Int) < (ws.length : Int) := by omega
            obtain ⟨bw', ow', hA, _, em⟩ := hcm.out m (by omega)
            injection hA with hA
            injection hA with hA1 hA2
            subst hA1 hA2
            have hmi := hide hm
            by_cases k4 : ws[i] ≤ ws[m]'(by omega)
            · have k4b : decide ((ws[m]'(by omega)) ≥ ws[i]) = true := by simpa using k4
              replace hwf := hide hwf
              have hno := hide (hbad.out (by rw [← Bool.not_eq_true, hwf.out]; intro g; have := g.2.2 m hmi.out; omega))
              clear hbad hwf hgo
              go_wp2_with fail
              go_quiet (fail)
              go_wp2
              go_ret
              exact ⟨by rw [hno.out]; rfl, belowN hb nq⟩
            · have k4b : decide ((ws[m]'(by omega)) ≥ ws[i]) = false := by simpa using k4
              replace hwf := hide hwf
              have hgo2 := hide (hgo.out (hwf.out.2 ⟨by omega, by omega, fun m' hm' => by obtain rfl : m' = m := by { have := hmi.out; omega }; omega⟩))
              clear hbad hwf hgo
              go_wp2_with fail
              go_quiet (fail)
              go_wp2
              go_roundw
              case rel => exact ⟨i + 1, by omega, by go_num, hgo2, belowN hb nq, kT, kH⟩
              case measure => simp [intOf]; omega
    · obtain rfl : i = ws.length := by omega
      have hyes3 := hide (fun hr => hyes2.out hall.out hr)
      have e2 := kT.cell 2
      simp only [List.getElem?_toArray, List.getElem?_cons_zero, List.getElem?_cons_succ] at e2
      go_wp2
      clear e1 e2 hall hyes2 hi hlt hi1
      go_loopw [7] (fun s7 wr => ∃ i : Nat, i ≤ rs.length ∧ s7 = .int .i64 i ∧ Hid (∀ j, j < i → rF H n rs j = true) ∧ Below w.heap.size w wr ∧ Blk wr (w.heap.size + 1) 57 #[.int .i64 ts, .slice Aw ws.length cw, .slice Ar rs.length cr] ∧ Blk wr w.heap.size 24 #[.slice (some ⟨b, off, none⟩) H.length c]) (fun s7 _ => rs.length - (intOf s7).toNat)
      case atStart => exact ⟨0, Nat.zero_le _, by go_num, fun j h => absurd h (by omega), hb, kT, kH⟩
      case round =>
        clear hb kT kH
        obtain ⟨i, hi, rfl, hall, hb, kT, kH⟩ := hrel
        have hi1 : (0 : Int) ≤ (i : Int) := Int.natCast_nonneg _
        have e2 := kT.cell 2
        simp only [List.getElem?_toArray, List.getElem?_cons_zero, List.getElem?_cons_succ] at e2
        by_cases hlt : i < rs.length
        · have hi2 : (i : Int) < (rs.length : Int) := by omega
          have hR := ItS.keep hrs (Agree.below hb fun b h => h) (fun b h => h)
          have hcm := hide (fun m (hm : m < rs.length) => ItS.at_ hR hm)
          obtain ⟨br, or_, rfl, hbr, ec0, ec1⟩ := ItS.at_ hR hlt
          have hrk := hide (rF_key (H := H) (n := n) hlt)
          have hwf := wF_is (l := rs.map (·.a)) (i := i) (by rw [List.length_map]; exact hlt) fun j hj => by
            have := hall.out j hj
            rw [rF_key (by omega), Bool.and_eq_true] at this
            exact this.1
          rw [List.getElem_map] at hwf
          have hth := hide (thereB_iff H n rs[i])
          have hbad := hide (fun g => hnr.out i hlt g)
          have hgo : Hid (rF H n rs i = true → ∀ j, j < i + 1 → rF H n rs j = true) := fun g j hj => by
            by_cases e : j = i
            · subst e; exact g
            · exact hall.out j (by omega)
          have hmk := hide (fun m (hm : m < rs.length) => List.getElem_map (fun x : It => x.a) (l := rs) (i := m) (h := by rw [List.length_map]; exact hm))
          generalize hrx : rs[i] = x at *
          replace hrx := hide hrx
          obtain ⟨xa, xb⟩ := x
          dsimp only at ec0 ec1 hwf hth
          have hbA := hb.alloc hb.size (.cells #[.int .i64 xa, .int .i64 xb] 132)
          have kTA := kT.alloc (.cells #[.int .i64 xa, .int .i64 xb] 132)
          have kHA := kH.alloc (.cells #[.int .i64 xa, .int .i64 xb] 132)
          have kX := Blk.new wr 132 #[.int .i64 xa, .int .i64 xb]
          have u0 := kX.cell 0
          have u1 := kX.cell 1
          have y2 := kTA.cell 2
          have z0 := kHA.cell 0
          simp only [List.getElem?_toArray, List.getElem?_cons_zero, List.getElem?_cons_succ] at u0 u1 y2 z0
          replace hwf := hide hwf
          go_wp2_with fail
          clear ec0 ec1 e2 hb kT kH
          generalize hWA : wr.alloc (.cells #[.int .i64 xa, .int .i64 xb] 132) = WA at *
          replace hcm := hide (fun m (hm : m < rs.length) => ItS.at_ (ItS.keep hrs (Agree.below hbA fun b h => h) (fun b h => h)) hm)
          clear hWA hR
          generalize wr.heap.size = N8 at *
          by_cases k1 : xa < 0
          · have k1b : decide (xa < 0) = true := by simpa using k1
            have hno := hide (hbad.out (by rw [hrk.out, Bool.and_eq_false_iff]; left; rw [← Bool.not_eq_true, hwf.out]; intro g; have := g.1; omega))
            clear hbad hwf hgo hth hrk
            go_quiet (fail)
            go_wp2
            go_ret
            exact ⟨by rw [hno.out]; rfl, belowN hbA nq⟩
          · have k1b : decide (xa < 0) = false := by simpa using k1
            by_cases k2 : 15 < xa
            · have k2b : decide (xa > 15) = true := by simpa using k2
              have hno := hide (hbad.out (by rw [hrk.out, Bool.and_eq_false_iff]; left; rw [← Bool.not_eq_true, hwf.out]; intro g; have := g.2.1; omega))
              clear hbad hwf hgo hth hrk
              go_quiet (fail)
              go_wp2
              go_ret
              exact ⟨by rw [hno.out]; rfl, belowN hbA nq⟩
            · have k2b : decide (xa > 15) = false := by simpa using k2
              by_cases hi0 : i = 0
              · have k3b : decide ((i : Int) > 0) = false := by simp; omega
                have k3c : decide (0 < i) = false := by simp; omega
                have hwt := hide (hwf.out.2 ⟨by omega, by omega, fun m hm => by omega⟩)
                clear hi0
                by_cases g5 : xb < -1
                · have g5b : decide (xb < -1) = true := by simpa using g5
                  have hno := hide (hbad.out (by rw [hrk.out, Bool.and_eq_false_iff]; right; rw [← Bool.not_eq_true, hth.out]; exact fun g => g.elim (fun e => by omega) (fun ⟨k, hk, e, _⟩ => by omega)))
                  clear hbad hwf hgo hth hrk
                  go_quiet (fail)
                  go_wp2
                  go_ret
                  exact ⟨by rw [hno.out]; rfl, belowN hbA nq⟩
                · have g5b : decide (xb < -1) = false := by simpa using g5
                  by_cases g6 : (H.length : Int) ≤ xb
                  · have g6b : decide (xb ≥ (H.length : Int)) = true := by simpa using g6
                    have hno := hide (hbad.out (by rw [hrk.out, Bool.and_eq_false_iff]; right; rw [← Bool.not_eq_true, hth.out]; exact fun g => g.elim (fun e => by omega) (fun ⟨k, hk, e, _⟩ => by omega)))
                    clear hbad hwf hgo hth hrk
                    go_quiet (fail)
                    go_wp2
                    go_ret
                    exact ⟨by rw [hno.out]; rfl, belowN hbA nq⟩
                  · have g6b : decide (xb ≥ (H.length : Int)) = false := by simpa using g6
                    by_cases g7 : xb = (n : Int)
                    · have g7b : (xb == (n : Int)) = true := by simpa using g7
                      replace g7 := hide g7
                      have hno := hide (hbad.out (by rw [hrk.out, Bool.and_eq_false_iff]; right; rw [← Bool.not_eq_true, hth.out]; have g7 := g7.out; exact fun g => g.elim (fun e => by omega) (fun ⟨k, hk, e, hkn, _⟩ => by omega)))
                      clear hbad hwf hgo hth hrk
                      go_quiet (fail)
                      go_wp2
                      go_ret
                      exact ⟨by rw [hno.out]; rfl, belowN hbA nq⟩
                    · have g7b : (xb == (n : Int)) = false := by simpa using g7
                      by_cases g8 : xb < 0
                      · have g8b : decide (xb < 0) = true := by simpa using g8
                        have hgo2 := hide (hgo.out (by rw [hrk.out, hwt.out, hth.out.2 (.inl (by omega))]; rfl))
                        clear hbad hwf hgo hth hrk hwt
                        go_quiet (fail)
                        go_wp2
                        go_roundw
                        case rel => exact ⟨i + 1, by omega, by go_num, hgo2, belowN hbA nq, kTA, kHA⟩
                        case measure => simp [intOf]; omega
                      · have g8b : decide (xb < 0) = false := by simpa using g8
                        have hm' : xb.toNat < H.length := by omega
                        have hm3 : 0 ≤ xb := by omega
                        have hm4 : xb < (H.length : Int) := by omega
                        obtain ⟨b', off', Aw', cw', Ar', cr', hA', hbK', p0, p1, p2, hws', _⟩ := TxnS.at_ (TxnS.keep h (Agree.below hbA fun b h => h) (fun b h => h)) hm'
                        injection hA' with hA'
                        injection hA' with hA1 hA2
                        subst hA1 hA2
                        have hl' := hAll.out xb.toNat hm'
                        have hrf : rF H n rs i = (H[xb.toNat].writes.contains xa) := by
                          rw [hrk.out, hwt.out, Bool.true_and, Bool.eq_iff_iff, hth.out, List.contains_iff_mem]
                          refine ⟨?_, fun g => .inr ⟨xb.toNat, hm', by omega, by omega, g⟩⟩
                          rintro (e | ⟨k, hk, e, _, g⟩)
                          · omega
                          · obtain rfl : k = xb.toNat := by omega
                            exact g
                        have hbad2 := hide (fun (g : H[xb.toNat].writes.contains xa = false) => hbad.out (hrf.trans g))
                        have hgo2 := hide (fun (g : H[xb.toNat].writes.contains xa = true) => hgo.out (hrf.trans g))
                        clear hbad hwf hgo hth hrk hwt hrf g5 g6 g7
                        generalize H[xb.toNat].writes = ws' at *
                        generalize H[xb.toNat].sess = ts' at *
                        go_quiet (fail)
                        go_wp2_with fail
                        refine wp_region_plan [0, 1, 2, 3, 4, 5, 6, 7] [8, 9] (by kernel_rfl) (by kernel_rfl) (fun _ _ d _ _ h => by cases d <;> exact h) ?_
                        simp only [List.filterMap_cons, List.filterMap_nil, List.getElem?_cons_zero, List.getElem?_cons_succ]
                        repeat still_step
                        refine wpStill_nil ?_
                        go_wp2_with fail
                        refine (writes08_any ts' Aw' cw' ws' _ xa (Old w) (WA.drewN (nq + 1)) (IntS.keep hws' (Agree.drewN _ _ _) (fun b h => h)) (fun b h => Nat.lt_of_lt_of_le h hbA.size) (by unfold maxLen; omega)).mono ?_
                        rintro e W9 ⟨rfl, hb9⟩
                        have kT9 := Blk.below (w := WA) kTA ⟨hb9.os, hb9.tape, hb9.output, hb9.size, hb9.block⟩ kTA.lt
                        have kH9 := Blk.below (w := WA) kHA ⟨hb9.os, hb9.tape, hb9.output, hb9.size, hb9.block⟩ kHA.lt
                        have hbF := (belowN hbA (nq + 1)).trans (hb9.mono hbA.size)
                        generalize ws'.contains xa = cb at *
                        cases cb with
                        | false =>
                          have hno := hide (hbad2.out rfl)
                          go_wp2
                          go_ret
                          exact ⟨by rw [hno.out]; rfl, hbF⟩
                        | true =>
                          have hgo3 := hide (hgo2.out rfl)
                          go_wp2
                          go_roundw
                          case rel => exact ⟨i + 1, by omega, by go_num, hgo3, hbF, kT9, kH9⟩
                          case measure => simp [intOf]; omega
              · obtain ⟨m, hm⟩ : ∃ m, m + 1 = i := ⟨i - 1, by omega⟩
                have k3b : decide ((i : Int) > 0) = true := by simp; omega
                have k3c : decide (0 < i) = true := by simp; omega
                have k3d : 0 < i := by omega
                have hq : IntKind.i64.wrap ((i : Int) - 1) = (m : Int) := by rw [IntKind.wrap_i64]; omega
                have hm1 : (0 : Int) ≤ (m : Int) := Int.natCast_nonneg _
                have hm2 : (m : Int) < (rs.length : Int) := by omega
                obtain ⟨bw', ow', hA, _, em, _⟩ := hcm.out m (by omega)
                injection hA with hA
                injection hA with hA1 hA2
                subst hA1 hA2
                have hme := hmk.out m (by omega)
                generalize (rs[m]'(by omega)).a = pv at *
                replace hme := hide hme
                have hmi := hide hm
                clear hi0
                by_cases k4 : xa ≤ pv
                · have k4b : decide (pv ≥ xa) = true := by simpa using k4
                  have hno := hide (hbad.out (by rw [hrk.out, Bool.and_eq_false_iff]; left; rw [← Bool.not_eq_true, hwf.out]; intro g; have := g.2.2 m hmi.out; rw [hme.out] at this; omega))
                  clear hbad hwf hgo hth hrk
                  go_quiet (fail)
                  go_wp2
                  go_ret
                  exact ⟨by rw [hno.out]; rfl, belowN hbA nq⟩
                · have k4b : decide (pv ≥ xa) = false := by simpa using k4
                  have hwt := hide (hwf.out.2 ⟨by omega, by omega, fun m' hm' => by
                    obtain rfl : m' = m := by have := hmi.out; omega
                    rw [hme.out]; omega⟩)
                  by_cases g5 : xb < -1
                  · have g5b : decide (xb < -1) = true := by simpa using g5
                    have hno := hide (hbad.out (by rw [hrk.out, Bool.and_eq_false_iff]; right; rw [← Bool.not_eq_true, hth.out]; exact fun g => g.elim (fun e => by omega) (fun ⟨k, hk, e, _⟩ => by omega)))
                    clear hbad hwf hgo hth hrk
                    go_quiet (fail)
                    go_wp2
                    go_ret
                    exact ⟨by rw [hno.out]; rfl, belowN hbA nq⟩
                  · have g5b : decide (xb < -1) = false := by simpa using g5
                    by_cases g6 : (H.length : Int) ≤ xb
                    · have g6b : decide (xb ≥ (H.length : Int)) = true := by simpa using g6
                      have hno := hide (hbad.out (by rw [hrk.out, Bool.and_eq_false_iff]; right; rw [← Bool.not_eq_true, hth.out]; exact fun g => g.elim (fun e => by omega) (fun ⟨k, hk, e, _⟩ => by omega)))
                      clear hbad hwf hgo hth hrk
                      go_quiet (fail)
                      go_wp2
                      go_ret
                      exact ⟨by rw [hno.out]; rfl, belowN hbA nq⟩
                    · have g6b : decide (xb ≥ (H.length : Int)) = false := by simpa using g6
                      by_cases g7 : xb = (n : Int)
                      · have g7b : (xb == (n : Int)) = true := by simpa using g7
                        replace g7 := hide g7
                        have hno := hide (hbad.out (by rw [hrk.out, Bool.and_eq_false_iff]; right; rw [← Bool.not_eq_true, hth.out]; have g7 := g7.out; exact fun g => g.elim (fun e => by omega) (fun ⟨k, hk, e, hkn, _⟩ => by omega)))
                        clear hbad hwf hgo hth hrk
                        go_quiet (fail)
                        go_wp2
                        go_ret
                        exact ⟨by rw [hno.out]; rfl, belowN hbA nq⟩
                      · have g7b : (xb == (n : Int)) = false := by simpa using g7
                        by_cases g8 : xb < 0
                        · have g8b : decide (xb < 0) = true := by simpa using g8
                          have hgo2 := hide (hgo.out (by rw [hrk.out, hwt.out, hth.out.2 (.inl (by omega))]; rfl))
                          clear hbad hwf hgo hth hrk hwt
                          go_quiet (fail)
                          go_wp2
                          go_roundw
                          case rel => exact ⟨i + 1, by omega, by go_num, hgo2, belowN hbA nq, kTA, kHA⟩
                          case measure => simp [intOf]; omega
                        · have g8b : decide (xb < 0) = false := by simpa using g8
                          have hm' : xb.toNat < H.length := by omega
                          have hm3 : 0 ≤ xb := by omega
                          have hm4 : xb < (H.length : Int) := by omega
                          obtain ⟨b', off', Aw', cw', Ar', cr', hA', hbK', p0, p1, p2, hws', _⟩ := TxnS.at_ (TxnS.keep h (Agree.below hbA fun b h => h) (fun b h => h)) hm'
                          injection hA' with hA'
                          injection hA' with hA1 hA2
                          subst hA1 hA2
                          have hl' := hAll.out xb.toNat hm'
                          have hrf : rF H n rs i = (H[xb.toNat].writes.contains xa) := by
                            rw [hrk.out, hwt.out, Bool.true_and, Bool.eq_iff_iff, hth.out, List.contains_iff_mem]
                            refine ⟨?_, fun g => .inr ⟨xb.toNat, hm', by omega, by omega, g⟩⟩
                            rintro (e | ⟨k, hk, e, _, g⟩)
                            · omega
                            · obtain rfl : k = xb.toNat := by omega
                              exact g
                          have hbad2 := hide (fun (g : H[xb.toNat].writes.contains xa = false) => hbad.out (hrf.trans g))
                          have hgo2 := hide (fun (g : H[xb.toNat].writes.contains xa = true) => hgo.out (hrf.trans g))
                          clear hbad hwf hgo hth hrk hwt hrf g5 g6 g7
                          generalize H[xb.toNat].writes = ws' at *
                          generalize H[xb.toNat].sess = ts' at *
                          go_quiet (fail)
                          go_wp2_with fail
                          refine wp_region_plan [0, 1, 2, 3, 4, 5, 6, 7] [8, 9] (by kernel_rfl) (by kernel_rfl) (fun _ _ d _ _ h => by cases d <;> exact h) ?_
                          simp only [List.filterMap_cons, List.filterMap_nil, List.getElem?_cons_zero, List.getElem?_cons_succ]
                          repeat still_step
                          refine wpStill_nil ?_
                          go_wp2_with fail
                          refine (writes08_any ts' Aw' cw' ws' _ xa (Old w) (WA.drewN (nq + 1)) (IntS.keep hws' (Agree.drewN _ _ _) (fun b h => h)) (fun b h => Nat.lt_of_lt_of_le h hbA.size) (by unfold maxLen; omega)).mono ?_
                          rintro e W9 ⟨rfl, hb9⟩
                          have kT9 := Blk.below (w := WA) kTA ⟨hb9.os, hb9.tape, hb9.output, hb9.size, hb9.block⟩ kTA.lt
                          have kH9 := Blk.below (w := WA) kHA ⟨hb9.os, hb9.tape, hb9.output, hb9.size, hb9.block⟩ kHA.lt
                          have hbF := (belowN hbA (nq + 1)).trans (hb9.mono hbA.size)
                          generalize ws'.contains xa = cb at *
                          cases cb with
                          | false =>
                            have hno := hide (hbad2.out rfl)
                            go_wp2
                            go_ret
                            exact ⟨by rw [hno.out]; rfl, hbF⟩
                          | true =>
                            have hgo3 := hide (hgo2.out rfl)
                            go_wp2
                            go_roundw
                            case rel => exact ⟨i + 1, by omega, by go_num, hgo3, hbF, kT9, kH9⟩
                            case measure => simp [intOf]; omega
        · obtain rfl : i = rs.length := by omega
          have hr := hide (hyes3.out hall.out)
          go_wp2
          go_ret
          exact ⟨by rw [hr.out]; rfl, hb⟩
end Go.Proofs.YtfodlklpfffaaaaGreatDoor

namespace Go.Proofs.YtfodlklpfffaaaaGreatDoor
open Go.RowKit Go.Inq
set_option maxHeartbeats 8000000
attribute [local go_sem ↓] Go.wp_at_zero Go.wp_at_succ

/-- May a row of numbers be, behind some? -/
def rowB (n : Nat) (l path : List Int) : Bool := riseW l && freshW n l path
structure RowC (n : Nat) (l path : List Int) (i : Nat) (hi : i < l.length) : Prop where
  lo : 0 ≤ l[i]
  hi : l[i] < (n : Int)
  fr : path.contains l[i] = false
  up : ∀ m (_ : m + 1 = i), l[m] < l[i]
theorem rowB_iff (n : Nat) (l path : List Int) : rowB n l path = true ↔ ∀ i (hi : i < l.length), RowC n l path i hi := by
  unfold rowB freshW
  rw [Bool.and_eq_true, riseW_iff, List.all_eq_true]
  constructor
  · rintro ⟨h1, h2⟩ i hi
    have h3 := h2 l[i] (List.getElem_mem hi)
    simp only [Bool.and_eq_true, decide_eq_true_eq, Bool.not_eq_true'] at h3
    exact ⟨h3.1.1, h3.1.2, h3.2, fun m hm => by subst hm; exact h1 (m + 1) (by omega) hi⟩
  · intro h
    refine ⟨fun k hk hl => (h k hl).up (k - 1) (by omega), fun x hx => ?_⟩
    obtain ⟨i, hi, rfl⟩ := List.getElem_of_mem hx
    have h1 := h i hi
    simp only [Bool.and_eq_true, decide_eq_true_eq, Bool.not_eq_true']
    exact ⟨⟨h1.lo, h1.hi⟩, h1.fr⟩
theorem rowB_no {n : Nat} {l path : List Int} {i : Nat} (hi : i < l.length) (h : ¬ RowC n l path i hi) : rowB n l path = false := by
  rw [Bool.eq_false_iff]
  intro e
  exact h ((rowB_iff n l path).1 e i hi)
set_option maxRecDepth 100000 in
theorem rrow30_any (n : Nat) (A : Option Addr) (c : Nat) (l : List Int) (Ap : Option Addr) (cp : Nat) (path : List Int) (w : World) (h : IntS w (Old w) (.slice A l.length c) l) (hP : IntS w (Old w) (.slice Ap path.length cp) path) (hl9 : l.length ≤ 1000000000) (hp9 : path.length ≤ 1000000000) :
    Calls Tryz.prog 40 #[.int .i64 (n : Int), .slice A l.length c, .slice Ap path.length cp] w fun e w' => e = .returned (.bool (rowB n l path)) ∧ Below w.heap.size w w' := by
  have hnoB := hide (fun i => rowB_no (n := n) (l := l) (path := path) (i := i))
  have hyesB := hide ((rowB_iff n l path).2)
  replace h := hide h
  replace hP := hide hP
  generalize rowB n l path = r at *
  go_enter Tryz.func40, Tryz.ntmps40
  go_wp2_with fail
  go_loopw [7] (fun s7 wr => ∃ i : Nat, i ≤ l.length ∧ s7 = .int .i64 i ∧ Hid (∀ j (hj : j < l.length), j < i → RowC n l path j hj) ∧ Below w.heap.size w wr) (fun s7 _ => l.length - (intOf s7).toNat)
  case atStart => exact ⟨0, Nat.zero_le _, by go_num, hide (fun j _ hj => absurd hj (by omega)), Below.refl _ _⟩
  case round =>
    obtain ⟨i, hi, rfl, hall, hb⟩ := hrel
    have hi1 : (0 : Int) ≤ (i : Int) := Int.natCast_nonneg _
    by_cases hlt : i < l.length
    · have hi2 : (i : Int) < (l.length : Int) := by omega
      have hS := h.out.below hb
      obtain ⟨bl, ol, hA, -, z0⟩ := hS.at_ hlt
      subst hA
      have hcm := hide (fun m (hm : m < l.length) => (hS.cells (i := m) hm).2)
      have hbad := hide (hnoB.out i hlt)
      have hgo := hide (fun (g : RowC n l path i hlt) => (fun j (hj : j < l.length) (hji : j < i + 1) => (by
        by_cases e : j = i
        · subst e; exact g
        · exact hall.out j hj (by omega) : RowC n l path j hj)))
      have hin := hide (rin30_any Ap cp path l[i] (Old wr) wr (hP.out.below hb) hp9)
      have hfr := hide (fun (g : RowC n l path i hlt) => g.fr)
      generalize hct : path.contains l[i] = ct at *
      replace hct := hide hct
      go_wp2_with fail
      refine hin.out.mono ?_
      rintro e w2 ⟨rfl, rfl⟩
      clear hin
      clear hfr hP h
      by_cases k1 : l[i] < 0
      · have k1b : decide (l[i] < 0) = true := by simpa using k1
        have hno := (hbad.out (fun g => by have := g.lo; omega))
        subst hno
        clear hbad hgo
        replace hall := hide hall
        go_wp2_with fail
        go_quiet (fail)
        go_wp2
        go_ret
        exact ⟨rfl, belowN hb nq⟩
      · have k1b : decide (l[i] < 0) = false := by simpa using k1
        by_cases k2 : (n : Int) ≤ l[i]
        · have k2b : decide (l[i] ≥ (n : Int)) = true := by simpa using k2
          have hno := (hbad.out (fun g => by have := g.hi; omega))
          subst hno
          clear hbad hgo
          replace hall := hide hall
          go_wp2_with fail
          go_quiet (fail)
          go_wp2
          go_ret
          exact ⟨rfl, belowN hb nq⟩
        · have k2b : decide (l[i] ≥ (n : Int)) = false := by simpa using k2
          cases ct with
          | true =>
            have hno := (hbad.out (fun g => by have := g.fr; rw [hct.out] at this; cases this))
            subst hno
            clear hbad hgo
            replace hall := hide hall
            go_wp2_with fail
            go_quiet (fail)
            go_wp2
            go_ret
            exact ⟨rfl, belowN hb nq⟩
          | false =>
            by_cases hi0 : i = 0
            · have k3b : decide ((i : Int) > 0) = false := by simp; omega
              have k3c : decide (0 < i) = false := by simp; omega
              replace hi0 := hide hi0
              have hgo2 := hide (hgo.out ⟨by omega, by omega, hct.out, fun m hm => by have := hi0.out; omega⟩)
              clear hbad hgo hall
              go_wp2_with fail
              go_quiet (fail)
              go_wp2
              go_roundw
              case rel => exact ⟨i + 1, by omega, by go_num, hgo2, belowN hb nq⟩
              case measure => simp [intOf]; omega
            · obtain ⟨m, hm⟩ : ∃ m, m + 1 = i := ⟨i - 1, by omega⟩
              have k3b : decide ((i : Int) > 0) = true := by simp; omega
              have k3c : decide (0 < i) = true := by simp; omega
              have k3d : 0 < i := by omega
              have hq : IntKind.i64.wrap ((i : Int) - 1) = (m : Int) := by rw [IntKind.wrap_i64]; omega
              have hm1 : (0 : Int) ≤ (m : Int) := Int.natCast_nonneg _
              have hm2 : (m : Int) < (l.length : Int) := by omega
              have em := hcm.out m (by omega)
              have hmi := hide hm
              clear hi0
              by_cases k4 : l[i] ≤ l[m]'(by omega)
              · have k4b : decide ((l[m]'(by omega)) ≥ l[i]) = true := by simpa using k4
                have hno := (hbad.out (fun g => by have := g.up m hmi.out; omega))
                subst hno
                clear hbad hgo
                replace hall := hide hall
                go_wp2_with fail
                go_quiet (fail)
                go_wp2
                go_ret
                exact ⟨rfl, belowN hb nq⟩
              · have k4b : decide ((l[m]'(by omega)) ≥ l[i]) = false := by simpa using k4
                have hgo2 := hide (hgo.out ⟨by omega, by omega, hct.out, fun m' hm' => by obtain rfl : m' = m := by { have := hmi.out; omega }; omega⟩)
                clear hbad hgo hall
                go_wp2_with fail
                go_quiet (fail)
                go_wp2
                go_roundw
                case rel => exact ⟨i + 1, by omega, by go_num, hgo2, belowN hb nq⟩
                case measure => simp [intOf]; omega
    · have hr := hyesB.out (fun j hj => hall.out j hj (by omega))
      subst hr
      replace hall := hide hall
      go_wp2
      go_ret
      exact ⟨rfl, hb⟩
end Go.Proofs.YtfodlklpfffaaaaGreatDoor

namespace Go.Proofs.YtfodlklpfffaaaaGreatDoor
open Go.RowKit Go.Inq
set_option maxHeartbeats 1000000
attribute [local go_sem ↓] Go.wp_at_zero Go.wp_at_succ

theorem testBit_div (s i : Nat) : decide (s / 2 ^ i % 2 = 1) = s.testBit i := by
  rw [Nat.testBit_eq_decide_div_mod_eq]
theorem pow_63 {i : Nat} (h : i ≤ 63) : 2 ^ i ≤ 9223372036854775808 := by
  have := Nat.pow_le_pow_right (n := 2) (by decide) h
  simpa using this
theorem with_add {s i : Nat} (hs : s < 18446744073709551616) (hi : i ≤ 63) (h : s.testBit i = false) : s + 2 ^ i = s ||| 2 ^ i := by
  have hp := pow_63 hi
  have hand : BitVec.ofNat 65 s &&& BitVec.ofNat 65 (2 ^ i) = 0#65 := by
    refine BitVec.eq_of_toNat_eq ?_
    rw [BitVec.toNat_and, BitVec.toNat_ofNat, BitVec.toNat_ofNat, Nat.mod_eq_of_lt (by omega), Nat.mod_eq_of_lt (by omega)]
    refine Nat.eq_of_testBit_eq fun j => ?_
    rw [Nat.testBit_and, Nat.testBit_two_pow]
    by_cases e : i = j
    · subst e; simp [h]
    · simp [e]
  have h1 := congrArg BitVec.toNat (BitVec.add_eq_or_of_and_eq_zero _ _ hand)
  have e1 : (BitVec.ofNat 65 s).toNat = s := by rw [BitVec.toNat_ofNat]; exact Nat.mod_eq_of_lt (by omega)
  have e2 : (BitVec.ofNat 65 (2 ^ i)).toNat = 2 ^ i := by rw [BitVec.toNat_ofNat]; exact Nat.mod_eq_of_lt (by omega)
  rw [BitVec.toNat_add, BitVec.toNat_or, e1, e2, Nat.mod_eq_of_lt (by omega)] at h1
  exact h1
/-- A power of two. -/
def pow2 (n : Nat) : Nat := 2 ^ n
theorem rin10_any (i : Int) (w : World) : Calls Tryz.prog 120 #[.int .i64 i] w fun e w' => e = .returned (.bool (decide (0 ≤ i) && decide (i ≤ 63))) ∧ w = w' := by
  by_cases h0 : 0 ≤ i
  · have h1 : decide (i ≥ 0) = true := by simpa using h0
    have h2 : decide (0 ≤ i) = true := by simpa using h0
    go_enter Tryz.func120, Tryz.ntmps120
    go_wp2
    go_ret
    exact ⟨by simp [h2], rfl⟩
  · have h1 : decide (i ≥ 0) = false := by simpa using h0
    have h2 : decide (0 ≤ i) = false := by simpa using h0
    clear h0
    go_enter Tryz.func120, Tryz.ntmps120
    go_wp2
    go_ret
    exact ⟨by simp [h2], rfl⟩
theorem rpow10_any (n : Nat) (hn : n ≤ 63) (w : World) : Calls Tryz.prog 121 #[.int .i64 (n : Int)] w fun e w' => e = .returned (.int .u64 (pow2 n : Nat)) ∧ w = w' := by
  go_enter Tryz.func121, Tryz.ntmps121
  go_wp2
  go_loop [3, 4] (fun s3 s4 => ∃ k : Nat, k ≤ n ∧ s4 = .int .i64 k ∧ ∃ x : Nat, s3 = .int .u64 x ∧ Hid (x = pow2 k)) (fun _ s4 => n - (intOf s4).toNat)
  case atStart => exact ⟨0, Nat.zero_le _, by go_num, 1, by go_num, hide rfl⟩
  case round =>
    obtain ⟨k, hk, rfl, x, rfl, hx⟩ := hrel
    have hk1 : (0 : Int) ≤ (k : Int) := Int.natCast_nonneg _
    by_cases hlt : k < n
    · have hx2 : x ≤ 9223372036854775807 := by
        rw [hx.out]
        unfold pow2
        have := Nat.pow_lt_pow_right (a := 2) (by decide) (show k < 63 by omega)
        have h63 : (2 : Nat) ^ 63 = 9223372036854775808 := by decide
        omega
      have hxs : Hid (x + x = pow2 (k + 1)) := hide (by rw [hx.out]; unfold pow2; rw [Nat.pow_succ]; omega)
      replace hx := hide hx
      have hwr : IntKind.u64.wrap ((x : Int) + (x : Int)) = ((x + x : Nat) : Int) := by rw [IntKind.wrap_u64]; omega
      go_wp2
      go_round
      case rel => exact ⟨k + 1, by omega, by go_num, x + x, by go_num, hxs⟩
      case measure => simp [intOf]; omega
    · obtain rfl : k = n := by omega
      go_wp2
      go_ret
      exact ⟨by rw [hx.out]; rfl, rfl⟩
theorem rhas10_any (s : Nat) (hs : s < 18446744073709551616) (i : Int) (w : World) : Calls Tryz.prog 96 #[.int .u64 s, .int .i64 i] w fun e w' => e = .returned (.bool (hasB s i)) ∧ w = w' := by
  by_cases hi : 0 ≤ i ∧ i ≤ 63
  · obtain ⟨n, rfl⟩ : ∃ n : Nat, i = n := ⟨i.toNat, by omega⟩
    have hn : n ≤ 63 := by omega
    have hb : (decide ((0 : Int) ≤ (n : Int)) && decide ((n : Int) ≤ 63)) = true := by simp; omega
    have hr := hide (hasB_nat s n)
    have hq := hide (testBit_div s n)
    clear hi
    go_enter Tryz.func96, Tryz.ntmps96
    go_wp2_with fail
    refine (rin10_any (n : Int) _).mono ?_
    rw [hb]
    rintro e w1 ⟨rfl, rfl⟩
    go_wp2_with fail
    refine (rpow10_any n hn _).mono ?_
    rintro e w1 ⟨rfl, rfl⟩
    have hp : Hid (pow2 n = 2 ^ n) := hide rfl
    have hp0 : 0 < pow2 n := Nat.two_pow_pos n
    generalize pow2 n = p at *
    have hp1 : ((p : Int) == 0) = false := by rw [beq_eq_false_iff_ne]; omega
    have hw : Hid (IntKind.u64.wrap ((s : Int) / (p : Int)) = ((s / p : Nat) : Int)) := hide (by
      have h1 : s / p ≤ s := Nat.div_le_self _ _
      have e : (s : Int) / (p : Int) = ((s / p : Nat) : Int) := (Int.natCast_ediv s p).symm
      rw [e]
      generalize s / p = q at *
      rw [IntKind.wrap_u64]
      omega)
    go_wp2
    go_ret
    refine ⟨ret_bool ?_, rfl⟩
    rw [hr.out, ← hq.out, ← hp.out, hw.out]
    generalize s / p = q
    rw [Int.tmod_eq_emod_of_nonneg (Int.natCast_nonneg _), Bool.eq_iff_iff]
    simp
    omega
  · have hb : (decide (0 ≤ i) && decide (i ≤ 63)) = false := by
      rw [Bool.and_eq_false_iff]
      simp
      omega
    have hr : Hid (hasB s i = false) := hide (by
      unfold hasB
      by_cases h0 : 0 ≤ i
      · rw [Nat.testBit_lt_two_pow (Nat.lt_of_lt_of_le hs (by
          have : (2 : Nat) ^ 64 ≤ 2 ^ i.toNat := Nat.pow_le_pow_right (by decide) (by omega)
          omega))]
        simp
      · simp [h0])
    clear hi
    go_enter Tryz.func96, Tryz.ntmps96
    go_wp2_with fail
    refine (rin10_any i _).mono ?_
    rw [hb]
    rintro e w1 ⟨rfl, rfl⟩
    go_wp2
    go_ret
    exact ⟨by rw [hr.out]; rfl, rfl⟩
theorem rwith10_any (s : Nat) (hs : s < 18446744073709551616) (i : Int) (w : World) : Calls Tryz.prog 99 #[.int .u64 s, .int .i64 i] w fun e w' => e = .returned (.int .u64 (withB s i : Nat)) ∧ w = w' := by
  cases hh : hasB s i with
  | true =>
    have hr : Hid (withB s i = s) := hide (by
      unfold hasB at hh
      rw [Bool.and_eq_true, decide_eq_true_eq] at hh
      unfold withB bitN
      by_cases h : i < 64
      · rw [if_pos ⟨hh.1, h⟩]
        refine Nat.eq_of_testBit_eq fun j => ?_
        rw [Nat.testBit_or, Nat.testBit_two_pow]
        by_cases e : i.toNat = j
        · subst e; simp [hh.2]
        · simp [e]
      · rw [if_neg (by omega), Nat.or_zero])
    have hc := hide (rhas10_any s hs i)
    rw [hh] at hc
    replace hh := hide hh
    go_enter Tryz.func99, Tryz.ntmps99
    go_wp2_with fail
    refine (hc.out _).mono ?_
    rintro e w1 ⟨rfl, rfl⟩
    go_wp2
    go_ret
    exact ⟨by rw [hr.out]; rfl, rfl⟩
  | false =>
    have hc := hide (rhas10_any s hs i)
    rw [hh] at hc
    by_cases hi : 0 ≤ i ∧ i ≤ 63
    · obtain ⟨n, rfl⟩ : ∃ n : Nat, i = n := ⟨i.toNat, by omega⟩
      have hn : n ≤ 63 := by omega
      have hb : (decide ((0 : Int) ≤ (n : Int)) && decide ((n : Int) ≤ 63)) = true := by simp; omega
      have hbit : s.testBit n = false := by rw [← hasB_nat]; exact hh
      have hadd := with_add hs hn hbit
      have hr : Hid (withB s (n : Int) = s + pow2 n) := hide (by unfold withB; rw [bitN_in (by omega) (by omega), Int.toNat_natCast, ← hadd]; rfl)
      have hlt : s + pow2 n < 18446744073709551616 := by rw [← hr.out]; exact withB_lt hs _
      replace hadd := hide hadd
      clear hi hh hbit
      go_enter Tryz.func99, Tryz.ntmps99
      go_wp2_with fail
      refine (hc.out _).mono ?_
      rintro e w1 ⟨rfl, rfl⟩
      go_wp2_with fail
      refine (rin10_any (n : Int) _).mono ?_
      rw [hb]
      rintro e w1 ⟨rfl, rfl⟩
      go_wp2_with fail
      refine (rpow10_any n hn _).mono ?_
      rintro e w1 ⟨rfl, rfl⟩
      generalize pow2 n = p at *
      have hw : IntKind.u64.wrap ((s : Int) + (p : Int)) = ((s + p : Nat) : Int) := by rw [IntKind.wrap_u64]; omega
      go_wp2
      go_ret
      exact ⟨by rw [hr.out]; first | rfl | simp, rfl⟩
    · have hb : (decide (0 ≤ i) && decide (i ≤ 63)) = false := by
        rw [Bool.and_eq_false_iff]
        simp
        omega
      have hr : Hid (withB s i = s) := hide (by unfold withB bitN; rw [if_neg (by omega), Nat.or_zero])
      clear hi hh
      go_enter Tryz.func99, Tryz.ntmps99
      go_wp2_with fail
      refine (hc.out _).mono ?_
      rintro e w1 ⟨rfl, rfl⟩
      go_wp2_with fail
      refine (rin10_any i _).mono ?_
      rw [hb]
      rintro e w1 ⟨rfl, rfl⟩
      go_wp2
      go_ret
      exact ⟨by rw [hr.out]; rfl, rfl⟩
end Go.Proofs.YtfodlklpfffaaaaGreatDoor

namespace Go.Proofs.YtfodlklpfffaaaaGreatDoor
open Go.RowKit Go.Inq
set_option maxHeartbeats 2000000
attribute [local go_sem ↓] Go.wp_at_zero Go.wp_at_succ

theorem infoU12 : (Tryz.prog.info? 101).map (fun i => (i.zero, i.size, i.bytes)) = some (some (.int .u64 0), 1, 8) := by kernel_rfl
/-- What makes a graph tells. -/
abbrev OutG := NewG 101
theorem new12_any (n : Nat) (hn : n ≤ 64) (w : World) : Calls Tryz.prog 77 #[.int .i64 n] w (OutG w n noE) := by
  have hmk : ∀ W : World, (Instr.makeSlice 61 (.int .i64 (n : Int)) (.int .i64 (n : Int))).run Tryz.prog W = .ok (.slice (some ⟨W.heap.size, 0, none⟩) n n) (W.alloc (.cells (madeCells #[.int .u64 0] n) 101)) :=
    fun W => run_make_row' (P := Tryz.prog) 61 101 (.int .u64 0) 8 Tryz.underlying61 infoU12 rfl .i64 .i64 n (by omega) (by omega) W
  have h1 : decide ((n : Int) < 0) = false := by simp
  have h2 : decide ((n : Int) > 64) = false := by simp; omega
  have hno := hide (rowsB_no n)
  go_enter Tryz.func77, Tryz.ntmps77
  go_wp2
  refine bodyPost_ret (v := .tuple #[.agg #[.int .i64 n, .slice (some ⟨w.heap.size + 1, 0, none⟩) n n], .int .i64 0]) (by simp [results, Tryz.results77, go_sem]) rfl ?_
  refine ⟨w.heap.size + 1, by omega, rfl, ?_, ?_⟩
  · rw [hno.out]
    have := Blk.new (w.alloc (.cells #[.int .i64 n, .slice (some ⟨w.heap.size + 1, 0, none⟩) n n] 63)) 101 (madeCells #[.int .u64 0] n)
    simpa using this
  · exact ((Below.refl _ _).alloc (Nat.le_refl _) _).alloc (by simp) _
theorem right12_any (n : Nat) (A : Option Addr) (c : Nat) (E : Edges) (K : Nat → Prop) (w : World) (h : GrS w K n A c E) (hK : ∀ b, K b → b < w.heap.size) :
    Calls Tryz.prog 76 #[.agg #[.int .i64 n, .slice A n c]] w fun e w' => e = .returned (.bool true) ∧ Below w.heap.size w w' := by
  have h1 : decide ((n : Int) ≥ 0) = true := by simp
  have h2 : decide ((n : Int) ≤ 64) = true := by have := h.n64; simp; omega
  have hB : Below w.heap.size w (w.alloc (.cells #[.int .i64 n, .slice A n c] 63)) := (Below.refl _ _).alloc (Nat.le_refl _) _
  have k0 : Blk (w.alloc (.cells #[.int .i64 n, .slice A n c] 63)) w.heap.size 63 #[.int .i64 n, .slice A n c] := Blk.new _ _ _
  have hs := h.sl.keep (Agree.below hB hK) (fun b hb => hb)
  have hx : ∀ x ∈ rowsG n E, x < 18446744073709551616 := fun x hx => Nat.lt_of_lt_of_le (rowsG_lt hx) (pow_le_64 h.n64)
  have hsub := hide (sub_nodes h.n64 (l := rowsG n E) fun x hx => rowsG_lt hx)
  have hjl := hide (joinL_lt (l := rowsG n E) (n := 64) hx)
  have hpl := hide (show 2 ^ n - 1 < 18446744073709551616 by have := pow_le_64 h.n64; have := Nat.two_pow_pos n; omega)
  have hnn := hide h.n64
  replace hx := hide hx
  replace hs := hide hs
  clear h hK
  go_enter Tryz.func76, Tryz.ntmps76
  go_wp2
  generalize w.alloc (.cells #[.int .i64 n, .slice A n c] 63) = W at *
  have c0 := k0.cell 0
  have c1 := k0.cell 1
  simp only [List.getElem?_toArray, List.getElem?_cons_zero, List.getElem?_cons_succ] at c0 c1
  go_quiet ((first | (go_at_call 90; exact Calls.quiet_of_same ((join10_any A n c (rowsG n E) K _ (rowsG_length n E) (hs.out.keep (Agree.drewN _ _ _) (fun _ h => h)) hx.out (by have := hnn.out; omega)).mono fun _ _ h => ⟨h.1, h.2.symm⟩)) | (go_at_call 109; exact Calls.quiet_of_same ((nodes12_any n hnn.out _).mono fun _ _ h => ⟨h.1, h.2.symm⟩)) | (go_at_call 56; exact Calls.quiet_of_same ((sub10_any _ _ hjl.out hpl.out _).mono fun _ _ h => ⟨h.1, h.2.symm⟩))))
  rw [hsub.out]
  go_wp2
  go_ret
  exact ⟨rfl, hB.trans ⟨rfl, rfl, rfl, Nat.le_refl _, fun _ _ => rfl⟩⟩

theorem hB_box {w : World} {o : Obj} : Below w.heap.size w (w.alloc o) := (Below.refl _ _).alloc (Nat.le_refl _) _
/-- Is there an edge, of whatever numbers? -/
def hasE (n : Nat) (E : Edges) (a b : Int) : Bool := decide (0 ≤ a) && decide (a < (n : Int)) && hasB (setB (E a.toNat) n) b
theorem hasE_nat {n : Nat} {E : Edges} {a b : Nat} (ha : a < n) (hb : b < n) : hasE n E (a : Int) (b : Int) = E a b := by
  unfold hasE
  rw [hasB_nat, Int.toNat_natCast, testBit_setB]
  simp [ha, hb]
theorem has12_any (n : Nat) (A : Option Addr) (c : Nat) (E : Edges) (a b : Int) (K : Nat → Prop) (w : World) (h : GrS w K n A c E) (hK : ∀ b, K b → b < w.heap.size) :
    Calls Tryz.prog 47 #[.agg #[.int .i64 n, .slice A n c], .int .i64 a, .int .i64 b] w fun e w' => e = .returned (.bool (hasE n E a b)) ∧ Below w.heap.size w w' := by
  have hB : Below w.heap.size w (w.alloc (.cells #[.int .i64 n, .slice A n c] 63)) := hB_box
  have k0 : Blk (w.alloc (.cells #[.int .i64 n, .slice A n c] 63)) w.heap.size 63 #[.int .i64 n, .slice A n c] := Blk.new _ _ _
  have hg := h.keep (Agree.below hB hK) (fun b hb => hb)
  have hK2 : ∀ b, K b → b < (w.alloc (.cells #[.int .i64 n, .slice A n c] 63)).heap.size := fun b hb => by have := hK b hb; simp; omega
  replace hK := hide hK
  replace hg := hide hg
  replace h := hide h
  by_cases h0 : 0 ≤ a
  · have h0b : decide (a ≥ 0) = true := by simpa using h0
    by_cases h1 : a < (n : Int)
    · obtain ⟨m, rfl⟩ : ∃ m : Nat, a = m := ⟨a.toNat, by omega⟩
      have h1b : decide ((m : Int) < (n : Int)) = true := by simpa using h1
      have hr : hasE n E (m : Int) b = hasB (setB (E m) n) b := by unfold hasE; simp; omega
      rw [hr]
      have hm : m < n := by omega
      obtain ⟨bb, off, rfl, hbK, hc⟩ := hg.out.at_ hm
      have h64 := hide (setB_64 (p := E m) h.out.n64)
      clear hr
      go_enter Tryz.func47, Tryz.ntmps47
      go_wp2_with fail
      refine (right12_any n _ c E K _ hg.out hK2).mono ?_
      rintro e w1 ⟨rfl, hb1⟩
      replace hc := (hb1.cell (p := ⟨bb, off + m, none⟩) (hK2 _ hbK)).trans hc
      replace k0 := k0.below hb1 k0.lt
      have hb2 := hB.trans (hb1.mono hB.size)
      have c0 := k0.cell 0
      have c1 := k0.cell 1
      simp only [List.getElem?_toArray, List.getElem?_cons_zero, List.getElem?_cons_succ] at c0 c1
      clear k0 hb1 hB hK2
      go_wp2_with (go_at_call 55; refine (has10_any _ h64.out _ _).mono ?_; rintro e w3 ⟨rfl, rfl⟩)
      go_ret
      exact ⟨rfl, hb2⟩
    · have h1b : decide (a < (n : Int)) = false := by simpa using h1
      have hr : hasE n E a b = false := by unfold hasE; rw [h1b]; simp
      rw [hr]
      clear hr
      go_enter Tryz.func47, Tryz.ntmps47
      go_wp2_with fail
      refine (right12_any n _ c E K _ hg.out hK2).mono ?_
      rintro e w1 ⟨rfl, hb1⟩
      replace k0 := k0.below hb1 k0.lt
      have hb2 := hB.trans (hb1.mono hB.size)
      have c0 := k0.cell 0
      have c1 := k0.cell 1
      simp only [List.getElem?_toArray, List.getElem?_cons_zero, List.getElem?_cons_succ] at c0 c1
      clear k0 hb1 hB hK2
      go_wp2
      go_ret
      exact ⟨rfl, hb2⟩
  · have h0b : decide (a ≥ 0) = false := by simpa using h0
    have hr : hasE n E a b = false := by unfold hasE; simp [h0]
    rw [hr]
    clear hr
    go_enter Tryz.func47, Tryz.ntmps47
    go_wp2_with fail
    refine (right12_any n _ c E K _ hg.out hK2).mono ?_
    rintro e w1 ⟨rfl, hb1⟩
    have hb2 := hB.trans (hb1.mono hB.size)
    clear k0 hb1 hB hK2
    go_wp2
    go_ret
    exact ⟨rfl, hb2⟩
theorem like12_any (n : Nat) (A A' : Option Addr) (c c' : Nat) (E E' : Edges) (K : Nat → Prop) (w : World) (h : GrS w K n A c E) (h' : GrS w K n A' c' E') (hK : ∀ b, K b → b < w.heap.size) :
    Calls Tryz.prog 88 #[.agg #[.int .i64 n, .slice A n c], .agg #[.int .i64 n, .slice A' n c']] w fun e w' => e = .returned (.bool true) ∧ Below w.heap.size w w' := by
  have hB : Below w.heap.size w ((w.alloc (.cells #[.int .i64 n, .slice A n c] 63)).alloc (.cells #[.int .i64 n, .slice A' n c'] 63)) := hB_box.alloc (by simp) _
  have k0 : Blk ((w.alloc (.cells #[.int .i64 n, .slice A n c] 63)).alloc (.cells #[.int .i64 n, .slice A' n c'] 63)) w.heap.size 63 #[.int .i64 n, .slice A n c] := (Blk.new _ _ _).alloc _
  have k1 : Blk ((w.alloc (.cells #[.int .i64 n, .slice A n c] 63)).alloc (.cells #[.int .i64 n, .slice A' n c'] 63)) (w.heap.size + 1) 63 #[.int .i64 n, .slice A' n c'] := by
    have := Blk.new (w.alloc (.cells #[.int .i64 n, .slice A n c] 63)) 63 #[.int .i64 n, .slice A' n c']
    simpa using this
  have hg := hide (h.keep (Agree.below hB hK) (fun b hb => hb))
  have hg' := hide (h'.keep (Agree.below hB hK) (fun b hb => hb))
  have hK2 : ∀ b, K b → b < ((w.alloc (.cells #[.int .i64 n, .slice A n c] 63)).alloc (.cells #[.int .i64 n, .slice A' n c'] 63)).heap.size := fun b hb => by have := hK b hb; simp; omega
  clear h h'
  replace hK := hide hK
  go_enter Tryz.func88, Tryz.ntmps88
  go_wp2_with fail
  refine (right12_any n _ c E K _ hg.out hK2).mono ?_
  rintro e w1 ⟨rfl, hb1⟩
  have hg2 := hide (hg'.out.keep (Agree.below hb1 hK2) (fun b hb => hb))
  have hK3 : ∀ b, K b → b < w1.heap.size := fun b hb => Nat.lt_of_lt_of_le (hK2 b hb) hb1.size
  replace k0 := k0.below hb1 k0.lt
  replace k1 := k1.below hb1 k1.lt
  have hb2 := hB.trans (hb1.mono hB.size)
  have c0 := k0.cell 0
  have c1 := k0.cell 1
  have d0 := k1.cell 0
  have d1 := k1.cell 1
  simp only [List.getElem?_toArray, List.getElem?_cons_zero, List.getElem?_cons_succ] at c0 c1 d0 d1
  clear hg hg' hb1 hB
  replace hK2 := hide hK2
  go_wp2_with fail
  refine (right12_any n _ c' E' K _ hg2.out hK3).mono ?_
  rintro e w3 ⟨rfl, hb3⟩
  replace k0 := k0.below hb3 k0.lt
  replace k1 := k1.below hb3 k1.lt
  have hb4 := hb2.trans (hb3.mono hb2.size)
  clear c0 c1 d0 d1
  have c0 := k0.cell 0
  have d0 := k1.cell 0
  simp only [List.getElem?_toArray, List.getElem?_cons_zero, List.getElem?_cons_succ] at c0 d0
  clear hb3 hb2
  replace hK3 := hide hK3
  go_wp2
  go_ret
  exact ⟨rfl, hb4⟩
end Go.Proofs.YtfodlklpfffaaaaGreatDoor

namespace Go.Inq
open Go Go.RowKit

theorem wpList_copy_whole {P : Program} {w : World} {ops : Array Oper} {rest : List Oper} {o : Oper} {a : Act} {Q : Exit → Act → World → Prop} {α : Type} (f : α → Value)
    (hgd : o.guard = none) (d s : Operand) (dT sT : TypeId) (ho : o.op = .call { callee := .builtin .copy, args := #[d, s], argTypes := #[dT, sT] })
    (elem : TypeId) (hu : P.underlying dT = some (.slice elem)) (hsz : (P.info? elem).map (·.size) = some 1)
    (g n dc c : Nat) (A : Option Addr) (hd : a.eval d = .slice (some ⟨g, 0, none⟩) n dc) (hs : a.eval s = .slice A n c)
    (cur : Array Value) (t : TypeId) (hg : Blk w g t cur) (hcur : cur.size = n) (l : List α) (hl : l.length = n)
    (hsrc : ∀ i (hi : i < l.length), ∃ b off, A = some ⟨b, off, none⟩ ∧ w.cell? ⟨b, off + i, none⟩ = some (f l[i])) (h1 : ∀ x ∈ l, (f x).oneCell' = true)
    (h : ∀ w', Blk w' g t (l.map f).toArray → w.grownBy w' (some g) → wpList P ops Q rest (a.put o.dst (goInt n)) w') : wpList P ops Q (o :: rest) a w := by
  by_cases h0 : n = 0
  · subst h0
    have : l = [] := List.eq_nil_of_length_eq_zero hl
    subst this
    have hc : cur = #[] := Array.eq_empty_of_size_eq_zero hcur
    subst hc
    exact wpList_copy_nothing hgd d s dT sT ho elem hu hsz _ _ 0 dc 0 c hd hs rfl (h w (by simpa using hg) ⟨rfl, rfl, rfl, Nat.le_refl _, fun _ _ _ => rfl⟩)
  · obtain ⟨b, off, rfl, _⟩ := hsrc 0 (by omega)
    have hcs : (l.map f).length = n := by simpa using hl
    refine wpList_copy_own hgd d s dT sT ho elem hu hsz g 0 n dc ⟨b, off, none⟩ n c hd hs cur t hg (l.map f) (by rw [hcs]; simp [Nat.min_def]) (fun j v hj => ?_) (by rw [hcs]; omega) (fun v hv => ?_) ?_
    · rw [List.getElem?_map] at hj
      cases hlj : l[j]? with
      | none => rw [hlj] at hj; cases hj
      | some x =>
        rw [hlj] at hj
        injection hj with hj
        obtain ⟨hjl, rfl⟩ := List.getElem?_eq_some_iff.1 hlj
        obtain ⟨b', off', hA, hc⟩ := hsrc j hjl
        injection hA with hA
        injection hA with e1 e2
        subst e1 e2
        rw [Addr.add_lit, ← hj]
        exact hc
    · obtain ⟨x, hx, rfl⟩ := List.mem_map.1 hv
      exact h1 x hx
    · rw [hcs]
      have e : (cur.toList.take 0 ++ (l.map f ++ cur.toList.drop (0 + n))).toArray = (l.map f).toArray := by
        rw [List.drop_of_length_le (by simp; omega)]; simp
      rw [e]
      exact h _ (setRow_heap w g cur _ t _ hg) ⟨rfl, rfl, rfl, by simp [World.setRow], fun k hk hne => setRow_other w g k _ (fun e => hne (by rw [e]))⟩

section
variable {w W : World} {o : Obj} {K : Nat → Prop}
theorem Blk.allocEq {g : Nat} {t : TypeId} {cs : Array Value} (h : Blk w g t cs) (e : w.alloc o = W) : Blk W g t cs := by subst e; exact h.alloc o
theorem Agree.allocEq (e : w.alloc o = W) (hk : ∀ b, K b → b < w.heap.size) : Agree K w W := by subst e; exact Agree.alloc hk o
theorem below_allocEq {B : Nat} {w0 : World} (h : Below B w0 w) (e : w.alloc o = W) (hB : B ≤ w.heap.size) : Below B w0 W := by subst e; exact h.alloc hB o
theorem Blk.newEq {t : TypeId} {cs : Array Value} (e : w.alloc (.cells cs t) = W) : Blk W w.heap.size t cs := by subst e; exact Blk.new _ _ _
theorem Blk.two1 {t : TypeId} {cs : Array Value} (e : (w.alloc (.cells cs t)).alloc o = W) : Blk W w.heap.size t cs := by subst e; exact (Blk.new _ _ _).alloc _
theorem Blk.two2 {t : TypeId} {cs : Array Value} (e : (w.alloc o).alloc (.cells cs t) = W) : Blk W (w.heap.size + 1) t cs := by
  subst e
  have := Blk.new (w.alloc o) t cs
  simpa using this
theorem size_two {o' : Obj} (e : (w.alloc o).alloc o' = W) : W.heap.size = w.heap.size + 2 := by subst e; simp
theorem below_two {o' : Obj} (e : (w.alloc o).alloc o' = W) : Below w.heap.size w W := by subst e; exact ((Below.refl _ _).alloc (Nat.le_refl _) _).alloc (by simp) _
theorem Blk.three1 {o' : Obj} {t : TypeId} {cs : Array Value} (e : ((w.alloc (.cells cs t)).alloc o).alloc o' = W) : Blk W w.heap.size t cs := by subst e; exact ((Blk.new _ _ _).alloc _).alloc _
theorem Blk.three2 {o' : Obj} {t : TypeId} {cs : Array Value} (e : ((w.alloc o).alloc (.cells cs t)).alloc o' = W) : Blk W (w.heap.size + 1) t cs := by
  subst e
  have := (Blk.new (w.alloc o) t cs).alloc o'
  simpa using this
theorem Blk.three3 {o' : Obj} {t : TypeId} {cs : Array Value} (e : ((w.alloc o).alloc o').alloc (.cells cs t) = W) : Blk W (w.heap.size + 1 + 1) t cs := by
  subst e
  have := Blk.new ((w.alloc o).alloc o') t cs
  simpa using this
theorem size_three {o' o'' : Obj} (e : ((w.alloc o).alloc o').alloc o'' = W) : W.heap.size = w.heap.size + 3 := by subst e; simp
theorem below_three {o' o'' : Obj} (e : ((w.alloc o).alloc o').alloc o'' = W) : Below w.heap.size w W := by subst e; exact (((Below.refl _ _).alloc (Nat.le_refl _) _).alloc (by simp) _).alloc (by simp; omega) _
theorem size_allocEq (e : w.alloc o = W) : W.heap.size = w.heap.size + 1 := by subst e; simp
end
theorem grown_trans {w w' w'' : World} {r : Option Nat} (h : w.grownBy w' r) (h' : w'.grownBy w'' r) : w.grownBy w'' r :=
  ⟨h'.os.trans h.os, h'.tape.trans h.tape, h'.output.trans h.output, Nat.le_trans h.size h'.size, fun k hk hne => (h'.block k (Nat.lt_of_lt_of_le hk h.size) hne).trans (h.block k hk hne)⟩
theorem grown_below {w w' : World} {B : Nat} {r : Option Nat} (hb : Below B w w') (hB : w.heap.size ≤ B) : w.grownBy w' r := ⟨hb.os, hb.tape, hb.output, hb.size, fun k hk _ => hb.block k (by omega)⟩
theorem grown_set {w : World} (g i : Nat) (u : Value) : w.grownBy (w.setCell ⟨g, i, none⟩ u) (some g) :=
  ⟨rfl, rfl, rfl, by simp, fun k hk hne => Below.heap_setCell w ⟨g, i, none⟩ u k (fun e => hne (by simp at e; rw [e]))⟩
theorem grown_drew {w : World} {r : Option Nat} : w.grownBy w.drew r := ⟨rfl, rfl, rfl, Nat.le_refl _, fun _ _ _ => rfl⟩
theorem grown_drewN {w : World} {r : Option Nat} (n : Nat) : w.grownBy (w.drewN n) r := ⟨rfl, rfl, rfl, Nat.le_refl _, fun _ _ _ => rfl⟩
theorem Agree.ofGrown {K : Nat → Prop} {w w' : World} {g : Nat} (h : w.grownBy w' (some g)) (hK : ∀ b, K b → b < g) (hg : g ≤ w.heap.size) : Agree K w w' := Agree.grown h fun b hb => ⟨by have := hK b hb; omega, by have := hK b hb; simp; omega⟩
end Go.Inq
